/- The contract of para.SentNext. Conditions: none beyond what it says. -/
import Derived.Test.YtnaceobbbfbhhaaSent7
namespace Go.Proofs.Ytnaceobbbfbhhaa
open Go.RowKit Go.Shelf

attribute [local go_sem] Oper.semAt_some
theorem Typ.frozen {t : TypeId} {n : Nat} {E : List Nat} {X Y : World} (h : Typ t n E X Y) {b o : Nat} (hb : b < n) (hx : b < X.heap.size) (he : b ∉ E) : Y.frozen? ⟨b, o, none⟩ = X.frozen? ⟨b, o, none⟩ := by
  simp [World.frozen?, h.block b hb hx he]
theorem keeps_ovr (w x : World) : KeepsOthers w (ovr w x) := ⟨by simp, fun k _ hk _ => (heap_ovr w x k (Array.getElem?_eq_some_iff.1 hk).1).trans hk⟩
theorem keeps_in {A w x : World} (h : KeepsOthers A w) : KeepsOthers A (ovr w x) := h.trans (keeps_ovr w x)
theorem keeps_set {A w : World} {p : Addr} {v : Value} (h : KeepsOthers A w) : KeepsOthers A (w.setCell p v) := h.trans (KeepsOthers.setCell _ _ _)
theorem keeps_alloc {A w : World} {o : Obj} (h : KeepsOthers A w) : KeepsOthers A (w.alloc o) := h.trans (KeepsOthers.alloc _ _)
theorem typ_ovr {t : TypeId} {n : Nat} {E : List Nat} {A w x : World} (h : Typ t n E A w) : Typ t n E A (ovr w x) := h.trans (Typ.of_below (below_ovr w x))
theorem keeps_from {B : Nat} {W W' : World} (h : KeepsOthers W W') : KeepsFrom B W W' := h.from B
theorem below_ovr2 {B : Nat} {w W x : World} (h : Below B w W) (hB : B ≤ W.heap.size) : Below B w (ovr W x) := h.trans ((below_ovr W x).mono hB)
theorem ret6 {W' : World} {D Rb Bb : Nat} {a b c t : Int} {j ok : Bool} {tm : Array Value} {Q : Value → Prop} (h8 : tm.getD 8 undef = .pointer (some ⟨Rb, 0, none⟩)) (h9 : tm.getD 9 undef = .pointer (some ⟨Bb, 0, none⟩)) (hK : W'.heap[D]? = some (.deferred (some [])))
    (c0 : W'.cell? ⟨Rb, 0, none⟩ = some (.int .i64 a)) (c1 : W'.cell? ⟨Rb, 1, none⟩ = some (.int .i64 b)) (c2 : W'.cell? ⟨Rb, 2, none⟩ = some (.int .i64 c)) (c3 : W'.cell? ⟨Rb, 3, none⟩ = some (.bool j)) (c4 : W'.cell? ⟨Rb, 4, none⟩ = some (.int .i64 t)) (c5 : W'.cell? ⟨Bb, 0, none⟩ = some (.bool ok)) (hQ : Q (movV ((a, b, c, j, t), ok))) :
    ∃ v, (results Try.f59 tm).run Try.prog (W'.putObj D (.deferred none)) = .ok v (W'.putObj D (.deferred none)) ∧ Q v := by
  have r0 := cell_put c0 hK
  have r1 := cell_put c1 hK
  have r2 := cell_put c2 hK
  have r3 := cell_put c3 hK
  have r4 := cell_put c4 hK
  have r5 := cell_put c5 hK
  rw [Array.getD_eq_getD_getElem?] at h8 h9
  exact ⟨_, by simp [results, Try.results59, go_sem, h8, h9, r0, r1, r2, r3, r4, r5], hQ⟩
theorem boxed_lit (w x : World) (o1 o2 o3 o4 : Obj) {t : TypeId} {v : Value} : Boxed ((ovr ((((w.alloc o1).alloc (.cells #[v] t)).alloc o2).alloc o3) x).alloc o4) (w.heap.size + 1) t v := by
  have h : Boxed ((w.alloc o1).alloc (.cells #[v] t)) (w.heap.size + 1) t v := by have := Boxed.new (w.alloc o1) t v; rwa [World.size_alloc] at this
  exact (((h.alloc o2).alloc o3).kept (grown_below (below_ovr _ x)) (by simp)).alloc o4
/-- How many are behind, one by one. -/
theorem behR_snoc {l c : Int} {m : Nat} {pre : List (Plc m)} {x : Plc m} : behR l c (valsP (pre ++ [x])) = behR l c (valsP pre) ++ (if lessB l c (x.1.1 : Int) (x.1.2 : Int) = true then [x.1] else []) := by
  rw [valsP, List.map_append, behR, List.filter_append]
  congr 1
  rw [List.map_cons, List.map_nil, List.filter_cons, List.filter_nil]
theorem behR_prefix {l c : Int} {A R : List (Nat × Nat)} (h : A <+: R) : behR l c A <+: behR l c R := by
  obtain ⟨t, rfl⟩ := h
  rw [behR, behR, List.filter_append]
  exact ⟨_, rfl⟩
set_option maxRecDepth 100000 in
set_option maxHeartbeats 8000000 in
theorem psentNext_any (a : Option Addr) (cap : Nat) (L : List ByteArray) (pl pc n : Int) (op : Bool) (w : World) (hL : LinesAt w a L) (htot : L.length + total L ≤ 100000) (hn2 : n ≤ 9223372036854775807) :
    Calls Try.prog 59 #[.slice a L.length cap, .agg #[.int .i64 pl, .int .i64 pc], .int .i64 n, .bool op] w fun e w' => e = .returned (movV (sentNextP L pl pc n op)) ∧ Below w.heap.size w w' := by
  have hn := hL.2.1
  by_cases h : plcB L pl pc = true ∧ 1 ≤ n
  · have HQ : Hid ((plcB L pl pc && decide (1 ≤ n)) = true) := Lib.hid (by rw [h.1, decide_eq_true h.2]; rfl)
    obtain ⟨l, c, m, rfl, rfl, rfl, hl, hm, hp, _⟩ := sent_in h
    replace hp := hp op
    have hRl := (sentP_in (L := L)).2
    obtain ⟨e, he⟩ : ∃ e, L.length - 1 = e := ⟨_, rfl⟩
    obtain ⟨b, off, s, rfl, hb, hcell, hs, HS⟩ := line_facts' hL (i := e) (by omega)
    rw [he, HS.out] at hp
    have HP := Lib.hid hp
    clear h hp
    refine (callsIn_wide (n := 9)).1 ?_
    refine callsIn_of_wp_marks Try.func59 rfl trivial ?_ rfl
    simp only [Try.ntmps59, List.size_toArray, List.length_cons, List.length_nil, Nat.reduceAdd, Nat.reduceSub, Array.replicate_succ, Array.replicate_zero, List.push_toArray, List.append_toArray, List.nil_append, List.cons_append]
    gi_wp2_with (first
      | (gi_at_call 93; refine (callsIn_wide.2 (pfails_at _ _ L _ _ _ _ (by (repeat (first | assumption | refine LinesAt.ovr ?_ _ | refine LinesAt.alloc ?_ _ | refine LinesAt.drewN ?_ _ | refine LinesAt.drew ?_))) HQ)).mono ?_; rintro e1 w1 ⟨rfl, hbl⟩; obtain ⟨x1, rfl⟩ := ovr_of_below hbl; clear hbl)
      | (gi_at_call 56; refine (callsIn_wide.2 (psent_any _ _ L _)).mono ?_; rintro e1 w1 ⟨rfl, rfl⟩))
    obtain ⟨Bl, hBl⟩ : ∃ Bl, w.heap.size + 1 + 1 + 1 + 1 + x1.heap.size = Bl := ⟨_, rfl⟩
    rw [hBl]
    refine name_worldIn ?_
    intro W1 hW1
    have cp0 : W1.cell? ⟨w.heap.size, 0, none⟩ = some (.int .i64 l) := by rw [hW1]; simp [go_sem]
    have cp1 : W1.cell? ⟨w.heap.size, 1, none⟩ = some (.int .i64 c) := by rw [hW1]; simp [go_sem]
    have cr0 : W1.cell? ⟨w.heap.size + 1 + 1, 0, none⟩ = some (.int .i64 0) := by rw [hW1]; simp [go_sem]
    have cr1 : W1.cell? ⟨w.heap.size + 1 + 1, 1, none⟩ = some (.int .i64 0) := by rw [hW1]; simp [go_sem]
    have cr2 : W1.cell? ⟨w.heap.size + 1 + 1, 2, none⟩ = some (.int .i64 0) := by rw [hW1]; simp [go_sem]
    have cr3 : W1.cell? ⟨w.heap.size + 1 + 1, 3, none⟩ = some (.bool false) := by rw [hW1]; simp [go_sem]
    have cr4 : W1.cell? ⟨w.heap.size + 1 + 1, 4, none⟩ = some (.int .i64 0) := by rw [hW1]; simp [go_sem]
    have cb0 : W1.cell? ⟨w.heap.size + 1 + 1 + 1, 0, none⟩ = some (.bool false) := by rw [hW1]; simp [go_sem]
    have cf0 : W1.frozen? ⟨w.heap.size + 1 + 1, 0, none⟩ = false := by rw [hW1]; simp [go_sem]
    have cf1 : W1.frozen? ⟨w.heap.size + 1 + 1, 1, none⟩ = false := by rw [hW1]; simp [go_sem]
    have cf2 : W1.frozen? ⟨w.heap.size + 1 + 1, 2, none⟩ = false := by rw [hW1]; simp [go_sem]
    have cf3 : W1.frozen? ⟨w.heap.size + 1 + 1, 3, none⟩ = false := by rw [hW1]; simp [go_sem]
    have cf4 : W1.frozen? ⟨w.heap.size + 1 + 1, 4, none⟩ = false := by rw [hW1]; simp [go_sem]
    have cfb : W1.frozen? ⟨w.heap.size + 1 + 1 + 1, 0, none⟩ = false := by rw [hW1]; simp [go_sem]
    have bN : Boxed W1 (w.heap.size + 1) 3 (.int .i64 m) := by rw [hW1]; exact boxed_lit _ _ _ _ _ _
    have hBlc : W1.cell? ⟨Bl, 0, none⟩ = some (.slice (some ⟨b, off, none⟩) L.length cap) := by rw [hW1, ← hBl]; simp [go_sem]
    have hbel : Below w.heap.size w W1 := by rw [hW1]; (repeat (first | with_reducible exact Below.refl _ _ | (with_reducible refine Below.setCell ?_ ?_ _; rotate_left; · (first | exact Nat.le_refl _ | assumption | omega | (simp; done) | (simp; omega))) | (with_reducible refine Below.alloc ?_ ?_ _; rotate_left; · (first | exact Nat.le_refl _ | assumption | omega | (simp; done) | (simp; omega))) | with_reducible refine below_ovr_of ?_ | with_reducible refine drew_below ?_ _ | with_reducible refine Below.drew ?_ | with_reducible assumption))
    have hsz : W1.heap.size = Bl + 1 := by rw [hW1, ← hBl]; simp
    have hBlw : w.heap.size + 1 + 1 + 1 < Bl := by omega
    have hLW := hL.below hbel (Nat.le_refl _)
    have hbelS := hbel.size
    clear hW1 hBl
    have hOwn : OwnFrom W1.heap.size (fun (pre : List (Plc 100000)) W => (Boxed W (w.heap.size + 1) 3 (.int .i64 ((m - (behR l c (valsP pre)).length : Nat) : Int)) ∧ (behR l c (valsP pre)).length < m) ∧ Typ 3 W1.heap.size [w.heap.size + 1] W1 W) :=
      OwnFrom.and (OwnFrom.and (Own.from (boxed_own (w.heap.size + 1) 3 (fun pre : List (Plc 100000) => Value.int .i64 ((m - (behR l c (valsP pre)).length : Nat) : Int))) _) (ownFrom_pure _ _)) (typFrom (Nat.le_refl _))
    refine wpIn_rangeFunc_ownH rfl (by omega) (gf := 98) (lb := #[.pointer (some ⟨Bl, 0, none⟩)]) rfl trivial (enters_of Try.func98 (by kernel_rfl) rfl)
      (sent_stops Bl 100000 (some ⟨b, off, none⟩) cap L [w.heap.size + 1] W1 htot htot hBlc hLW (by intro k hk; simp at hk; omega) (by simp; omega) (by intro b' off' e'; cases e'; exact ⟨by omega, by simp; omega⟩)) (fun h k => Typ.trans h k) (typK_b (Nat.le_refl _)) (Below.refl _ _) (fun _ => rfl)
      _
      (fun k pre W => (k = .ret ∧ ∃ (x y : Nat), (behR l c (valsP pre)).length = m ∧ (behR l c (valsP pre)).getD (m - 1) (0, 0) = (x, y) ∧ W.cell? ⟨w.heap.size + 1 + 1, 0, none⟩ = some (.int .i64 x) ∧ W.cell? ⟨w.heap.size + 1 + 1, 1, none⟩ = some (.int .i64 y) ∧ W.cell? ⟨w.heap.size + 1 + 1, 2, none⟩ = some (.int .i64 0) ∧ W.cell? ⟨w.heap.size + 1 + 1, 3, none⟩ = some (.bool true) ∧ W.cell? ⟨w.heap.size + 1 + 1, 4, none⟩ = some (.int .i64 (-1)) ∧ W.cell? ⟨w.heap.size + 1 + 1 + 1, 0, none⟩ = some (.bool true)) ∧ Below w.heap.size w W)
      hOwn
      (fun k => OwnFrom.and (Own.from (fun s A B row hs hg hr => by
        obtain ⟨e0, x, y, e1, e2, e3, e4, e5, e6, e7, e8⟩ := hs
        exact ⟨e0, x, y, e1, e2, cell_kept e3 hg hr, cell_kept e4 hg hr, cell_kept e5 hg hr, cell_kept e6 hg hr, cell_kept e7 hg hr, cell_kept e8 hg hr⟩) _) (ownFrom_below (Nat.le_refl _) hbel.size))
      ⟨⟨by simpa [behR] using bN, by simp [behR]; omega⟩, Typ.refl _ _ _ _⟩
      (fun x a' W => ∃ Bx, W1.heap.size ≤ Bx ∧ Box2 W Bx 46 (.int .i64 (x.1.1 : Int)) (.int .i64 (x.1.2 : Int)) ∧ a' = { tmps := #[.slice (some ⟨b, off, none⟩) L.length cap, .agg #[.int .i64 l, .int .i64 c], .int .i64 m, .bool op, undef, .pointer (some ⟨w.heap.size, 0, none⟩), .pointer (some ⟨w.heap.size + 1, 0, none⟩), undef, .pointer (some ⟨w.heap.size + 1 + 1, 0, none⟩), .pointer (some ⟨w.heap.size + 1 + 1 + 1, 0, none⟩), .pointer (some ⟨Bx, 0, none⟩), undef, undef, .slice (some ⟨b, off, none⟩) L.length cap, .agg #[.int .i64 l, .int .i64 c], .int .i64 m, .bool false, undef, .slice (some ⟨b, off, none⟩) L.length cap, .func (.func 98) #[] #[.pointer (some ⟨Bl, 0, none⟩)], .agg #[.int .i64 (x.1.1 : Int), .int .i64 (x.1.2 : Int)], undef, undef, undef, undef, undef, undef, undef, undef, undef, undef, undef, undef, undef, undef, undef, undef, undef, undef, undef, undef, undef, undef, undef, undef, undef, undef, undef, undef, undef, undef, undef, undef, undef, undef, undef], defers := [] })
      (fun x a' _ X Y row ⟨Bx, h1, h2, h3⟩ hg hr => ⟨Bx, h1, Box2.own (β := Unit) Bx _ _ _ _ () X Y row h2 hg hr, h3⟩)
      ?assign ?body ?done ?stop
    case assign =>
      intro l' pre x W K hI hK
      gi_wp2
      exact hK _ _ ((KeepsOthers.alloc W _).from _) ((Typ.refl _ _ _ W).alloc _) (hOwn.alloc _ hI) ⟨W.heap.size, hI.2.size, World.alloc_heap_new W _, rfl⟩
    case body =>
      rintro l' pre x a' W _ _ ⟨⟨hN, hlt⟩, hB⟩ ⟨Bx, hBx, hx, rfl⟩ _
      have hx0 := hx.c0
      have hx1 := hx.c1
      have hxl := hx.lt
      have hBs := hB.size
      have gp0 : W.cell? ⟨w.heap.size, 0, none⟩ = some (.int .i64 l) := hB.cell (by omega) (by simp <;> omega) cp0
      have gp1 : W.cell? ⟨w.heap.size, 1, none⟩ = some (.int .i64 c) := hB.cell (by omega) (by simp <;> omega) cp1
      have gr0 : W.cell? ⟨w.heap.size + 1 + 1, 0, none⟩ = some (.int .i64 0) := hB.cell (by omega) (by simp <;> omega) cr0
      have gr1 : W.cell? ⟨w.heap.size + 1 + 1, 1, none⟩ = some (.int .i64 0) := hB.cell (by omega) (by simp <;> omega) cr1
      have gr2 : W.cell? ⟨w.heap.size + 1 + 1, 2, none⟩ = some (.int .i64 0) := hB.cell (by omega) (by simp <;> omega) cr2
      have gr3 : W.cell? ⟨w.heap.size + 1 + 1, 3, none⟩ = some (.bool false) := hB.cell (by omega) (by simp <;> omega) cr3
      have gr4 : W.cell? ⟨w.heap.size + 1 + 1, 4, none⟩ = some (.int .i64 0) := hB.cell (by omega) (by simp <;> omega) cr4
      have gb0 : W.cell? ⟨w.heap.size + 1 + 1 + 1, 0, none⟩ = some (.bool false) := hB.cell (by omega) (by simp <;> omega) cb0
      have gf0 : W.frozen? ⟨w.heap.size + 1 + 1, 0, none⟩ = false := (hB.frozen (by omega) (by omega) (by simp <;> omega)).trans cf0
      have gf1 : W.frozen? ⟨w.heap.size + 1 + 1, 1, none⟩ = false := (hB.frozen (by omega) (by omega) (by simp <;> omega)).trans cf1
      have gf2 : W.frozen? ⟨w.heap.size + 1 + 1, 2, none⟩ = false := (hB.frozen (by omega) (by omega) (by simp <;> omega)).trans cf2
      have gf3 : W.frozen? ⟨w.heap.size + 1 + 1, 3, none⟩ = false := (hB.frozen (by omega) (by omega) (by simp <;> omega)).trans cf3
      have gf4 : W.frozen? ⟨w.heap.size + 1 + 1, 4, none⟩ = false := (hB.frozen (by omega) (by omega) (by simp <;> omega)).trans cf4
      have gfb : W.frozen? ⟨w.heap.size + 1 + 1 + 1, 0, none⟩ = false := (hB.frozen (by omega) (by omega) (by simp <;> omega)).trans cfb
      have hbw : Below w.heap.size w W := hB.below hbel (by omega) (by omega) (by simp)
      have n1 : ¬ Bx = w.heap.size + 1 := by omega
      have n2 : ¬ w.heap.size + 1 = Bx := by omega
      have lN := hN.lt
      have lR : w.heap.size + 1 + 1 < W.heap.size := by omega
      have lB : w.heap.size + 1 + 1 + 1 < W.heap.size := by omega
      have lP : w.heap.size < W.heap.size := by omega
      obtain ⟨q, hq⟩ : ∃ q, lessB l c (x.1.1 : Int) (x.1.2 : Int) = q := ⟨_, rfl⟩
      have hst := behR_snoc (l := l) (c := c) (pre := pre) (x := x)
      rw [hq] at hst
      have HQ2 := Lib.hid hq
      clear hq
      cases q with
      | false =>
        have HB2 : Hid (behR l c (valsP (pre ++ [x])) = behR l c (valsP pre)) := Lib.hid (by rw [hst]; simp)
        have HLT := Lib.hid hlt
        have HN := Lib.hid hN
        clear hst hlt hN
        gi_wp2_with (gi_at_call 82; refine (callsIn_wide.2 (less_at _ _ _ _ _ HQ2)).mono ?_; rintro e1 w2 ⟨rfl, hbl⟩; obtain ⟨y1, rfl⟩ := ovr_of_below hbl; clear hbl)
        exact ⟨(keeps_in (KeepsOthers.refl _)).from _, typ_ovr (Typ.refl _ _ _ _), ⟨by rw [HB2.out]; exact HN.out.kept (grown_below (below_ovr W y1)) (by simp), by rw [HB2.out]; exact HLT.out⟩, typ_ovr hB⟩
      | true =>
        obtain ⟨d, hd⟩ : ∃ d, m - (behR l c (valsP pre)).length = d + 1 := ⟨m - (behR l c (valsP pre)).length - 1, by omega⟩
        rw [hd] at hN
        have HB2 : Hid (behR l c (valsP (pre ++ [x])) = behR l c (valsP pre) ++ [x.1]) := Lib.hid (by rw [hst]; simp)
        have hl2 : (behR l c (valsP (pre ++ [x]))).length = (behR l c (valsP pre)).length + 1 := by rw [HB2.out]; simp
        have HL2 := Lib.hid hl2
        have HD := Lib.hid hd
        have hnc := hN.cell
        have hnf := hN.frozen
        have ed : ((d + 1 : Nat) : Int) - 1 = (d : Int) := by omega
        have hset := hN.set (.int .i64 (d : Int))
        have hsc := hset.cell
        have HSET := Lib.hid hset
        have hdm : d ≤ 9223372036854775807 := by omega
        clear hst hl2 hd hset hlt
        rcases d with _ | d
        · have HLM : Hid ((behR l c (valsP pre)).length + 1 = m) := Lib.hid (by have := HD.out; omega)
          gi_wp2_with (first | (gi_at_call 82; refine (callsIn_wide.2 (less_at _ _ _ _ _ HQ2)).mono ?_; rintro e1 w2 ⟨rfl, hbl⟩; obtain ⟨y1, rfl⟩ := ovr_of_below hbl; clear hbl) | (gi_at_call 95; refine (callsIn_wide.2 (pjump_any _ _ _)).mono ?_; rintro e1 w2 ⟨rfl, hbl⟩; obtain ⟨y2, rfl⟩ := ovr_of_below hbl; clear hbl))
          exact ⟨keeps_from (by repeat (first | with_reducible exact KeepsOthers.refl _ | with_reducible refine keeps_in ?_ | with_reducible refine keeps_set ?_ | with_reducible refine keeps_alloc ?_)), ⟨rfl, x.1.1, x.1.2, by rw [HL2.out]; exact HLM.out, by rw [HB2.out, show m - 1 = (behR l c (valsP pre)).length by have := HLM.out; omega]; simp, by simp [go_sem, gr0, lR], by simp [go_sem, gr1, lR], by simp [go_sem, gr2, lR], by simp [go_sem, gr3, lR], by simp [go_sem, gr4, lR], by simp [go_sem, gb0, lB]⟩, by repeat (first | with_reducible exact hbw | (with_reducible refine below_ovr2 ?_ ?_; rotate_left; · (simp <;> omega)) | (with_reducible refine Below.setCell ?_ ?_ _; rotate_left; · (simp <;> omega)))⟩
        · gi_wp2_with (gi_at_call 82; refine (callsIn_wide.2 (less_at _ _ _ _ _ HQ2)).mono ?_; rintro e1 w2 ⟨rfl, hbl⟩; obtain ⟨y1, rfl⟩ := ovr_of_below hbl; clear hbl)
          exact ⟨keeps_from (by repeat (first | with_reducible exact KeepsOthers.refl _ | with_reducible refine keeps_in ?_ | with_reducible refine keeps_set ?_ | with_reducible refine keeps_alloc ?_)), typ_ovr ((Typ.refl _ _ _ _).setCell (by simp) _ _), ⟨by rw [show m - (behR l c (valsP (pre ++ [x]))).length = d + 1 by have := HL2.out; have := HD.out; omega]; exact HSET.out.kept (grown_below (below_ovr _ y1)) (by simp), by have := HL2.out; have := HD.out; omega⟩, typ_ovr (hB.setCell (by simp) _ _)⟩
    case done =>
      rintro D ys W hD hys ⟨⟨hN, hlt⟩, hB⟩ hK
      rw [show valsP ys = sentP L from hys] at hN hlt
      have hBs := hB.size
      have gp0 : W.cell? ⟨w.heap.size, 0, none⟩ = some (.int .i64 l) := hB.cell (by omega) (by simp <;> omega) cp0
      have gp1 : W.cell? ⟨w.heap.size, 1, none⟩ = some (.int .i64 c) := hB.cell (by omega) (by simp <;> omega) cp1
      have gr0 : W.cell? ⟨w.heap.size + 1 + 1, 0, none⟩ = some (.int .i64 0) := hB.cell (by omega) (by simp <;> omega) cr0
      have gr1 : W.cell? ⟨w.heap.size + 1 + 1, 1, none⟩ = some (.int .i64 0) := hB.cell (by omega) (by simp <;> omega) cr1
      have gr2 : W.cell? ⟨w.heap.size + 1 + 1, 2, none⟩ = some (.int .i64 0) := hB.cell (by omega) (by simp <;> omega) cr2
      have gr3 : W.cell? ⟨w.heap.size + 1 + 1, 3, none⟩ = some (.bool false) := hB.cell (by omega) (by simp <;> omega) cr3
      have gr4 : W.cell? ⟨w.heap.size + 1 + 1, 4, none⟩ = some (.int .i64 0) := hB.cell (by omega) (by simp <;> omega) cr4
      have gb0 : W.cell? ⟨w.heap.size + 1 + 1 + 1, 0, none⟩ = some (.bool false) := hB.cell (by omega) (by simp <;> omega) cb0
      have gf0 : W.frozen? ⟨w.heap.size + 1 + 1, 0, none⟩ = false := (hB.frozen (by omega) (by omega) (by simp <;> omega)).trans cf0
      have gf1 : W.frozen? ⟨w.heap.size + 1 + 1, 1, none⟩ = false := (hB.frozen (by omega) (by omega) (by simp <;> omega)).trans cf1
      have gf2 : W.frozen? ⟨w.heap.size + 1 + 1, 2, none⟩ = false := (hB.frozen (by omega) (by omega) (by simp <;> omega)).trans cf2
      have gf3 : W.frozen? ⟨w.heap.size + 1 + 1, 3, none⟩ = false := (hB.frozen (by omega) (by omega) (by simp <;> omega)).trans cf3
      have gf4 : W.frozen? ⟨w.heap.size + 1 + 1, 4, none⟩ = false := (hB.frozen (by omega) (by omega) (by simp <;> omega)).trans cf4
      have gfb : W.frozen? ⟨w.heap.size + 1 + 1 + 1, 0, none⟩ = false := (hB.frozen (by omega) (by omega) (by simp <;> omega)).trans cfb
      have hbw : Below w.heap.size w W := hB.below hbel (by omega) (by omega) (by simp)
      have hcs : W.cell? ⟨b, off + e, none⟩ = some (.string s) := hB.cell (by omega) (by simp <;> omega) ((hbel.cell (p := ⟨b, off + e, none⟩) hb).trans hcell)
      obtain ⟨B, hBB⟩ : ∃ B, behR l c (sentP L) = B := ⟨_, rfl⟩
      have hp2 := HP.out
      rw [hBB] at hN hlt hp2
      have HP2 := Lib.hid hp2
      obtain ⟨d, hd⟩ : ∃ d, m - B.length = d + 1 := ⟨m - B.length - 1, by omega⟩
      rw [hd] at hN
      obtain ⟨q, hq⟩ : ∃ q, lessB (l : Int) (c : Int) (e : Int) (s.size : Int) = q := ⟨_, rfl⟩
      have HQ2 := Lib.hid hq
      have e1 : (L.length : Int) - 1 = (e : Int) := by omega
      have e2 : (e : Int) < (L.length : Int) := by omega
      have e3 : (0 : Int) ≤ (e : Int) := by omega
      have hnc := hN.cell
      have lN := hN.lt
      have lR : w.heap.size + 1 + 1 < W.heap.size := by omega
      have lB : w.heap.size + 1 + 1 + 1 < W.heap.size := by omega
      have lP : w.heap.size < W.heap.size := by omega
      have lb : b < W.heap.size := by omega
      have hKK := fun (W' : World) (h : KeepsOthers W W') => h.same D _ hK rfl
      have HKK := Lib.hid hKK
      have HML := Lib.hid (show m = B.length + (d + 1) by omega)
      clear hys hBB hq hp2 hKK hd he
      rcases d with _ | d
      · cases op with
        | true =>
          cases q with
          | true =>
            have HR := Lib.hid (HP2.out.trans (sentNextO_end (by have := HML.out; omega) HQ2.out))
            gi_wp2_with (first | (gi_at_call 82; refine (callsIn_wide.2 (less_at _ _ _ _ _ HQ2)).mono ?_; rintro e1 w2 ⟨rfl, hbl⟩; obtain ⟨y1, rfl⟩ := ovr_of_below hbl; clear hbl) | (gi_at_call 95; refine (callsIn_wide.2 (pjump_any _ _ _)).mono ?_; rintro e1 w2 ⟨rfl, hbl⟩; obtain ⟨y2, rfl⟩ := ovr_of_below hbl; clear hbl))
            have hKK := HKK.out
            refine ⟨by simp, .inl ⟨_, _, rfl, run_takeDeferred (hKK _ (by repeat (first | with_reducible exact KeepsOthers.refl _ | with_reducible refine keeps_in ?_ | with_reducible refine keeps_set ?_ | with_reducible refine keeps_alloc ?_))), ?_⟩⟩
            exact ret6 (a := (e : Int)) (b := (s.size : Int)) (c := 0) (j := true) (t := -1) (ok := true) rfl rfl (hKK _ (by repeat (first | with_reducible exact KeepsOthers.refl _ | with_reducible refine keeps_in ?_ | with_reducible refine keeps_set ?_ | with_reducible refine keeps_alloc ?_))) (by simp [go_sem, gr0, lR, lN]) (by simp [go_sem, gr1, lR, lN]) (by simp [go_sem, gr2, lR, lN]) (by simp [go_sem, gr3, lR, lN]) (by simp [go_sem, gr4, lR, lN]) (by simp [go_sem, gb0, lB, lR]) ⟨by rw [HR.out], below_put (by omega) (hKK _ (by repeat (first | with_reducible exact KeepsOthers.refl _ | with_reducible refine keeps_in ?_ | with_reducible refine keeps_set ?_ | with_reducible refine keeps_alloc ?_))) (by repeat (first | with_reducible exact hbw | (with_reducible refine below_ovr2 ?_ ?_; rotate_left; · (simp <;> omega)) | (with_reducible refine Below.alloc ?_ ?_ _; rotate_left; · (simp <;> omega)) | (with_reducible refine Below.setCell ?_ ?_ _; rotate_left; · (simp <;> omega))))⟩
          | false =>
            have HR := Lib.hid (HP2.out.trans (sentNextO_no (by have := HML.out; omega) (fun h => by have := h.2.2; rw [HQ2.out] at this; cases this)))
            gi_wp2_with (first | (gi_at_call 82; refine (callsIn_wide.2 (less_at _ _ _ _ _ HQ2)).mono ?_; rintro e1 w2 ⟨rfl, hbl⟩; obtain ⟨y1, rfl⟩ := ovr_of_below hbl; clear hbl) | (gi_at_call 95; refine (callsIn_wide.2 (pjump_any _ _ _)).mono ?_; rintro e1 w2 ⟨rfl, hbl⟩; obtain ⟨y2, rfl⟩ := ovr_of_below hbl; clear hbl))
            have hKK := HKK.out
            refine ⟨by simp, .inl ⟨_, _, rfl, run_takeDeferred (hKK _ (by repeat (first | with_reducible exact KeepsOthers.refl _ | with_reducible refine keeps_in ?_ | with_reducible refine keeps_set ?_ | with_reducible refine keeps_alloc ?_))), ?_⟩⟩
            exact ret6 (a := 0) (b := 0) (c := 0) (j := false) (t := 0) (ok := false) rfl rfl (hKK _ (by repeat (first | with_reducible exact KeepsOthers.refl _ | with_reducible refine keeps_in ?_ | with_reducible refine keeps_set ?_ | with_reducible refine keeps_alloc ?_))) (by simp [go_sem, gr0, lR, lN]) (by simp [go_sem, gr1, lR, lN]) (by simp [go_sem, gr2, lR, lN]) (by simp [go_sem, gr3, lR, lN]) (by simp [go_sem, gr4, lR, lN]) (by simp [go_sem, gb0, lB, lR]) ⟨by rw [HR.out]; rfl, below_put (by omega) (hKK _ (by repeat (first | with_reducible exact KeepsOthers.refl _ | with_reducible refine keeps_in ?_ | with_reducible refine keeps_set ?_ | with_reducible refine keeps_alloc ?_))) (by repeat (first | with_reducible exact hbw | (with_reducible refine below_ovr2 ?_ ?_; rotate_left; · (simp <;> omega)) | (with_reducible refine Below.alloc ?_ ?_ _; rotate_left; · (simp <;> omega)) | (with_reducible refine Below.setCell ?_ ?_ _; rotate_left; · (simp <;> omega))))⟩
        | false =>
          have HR := Lib.hid (HP2.out.trans (sentNextO_no (by have := HML.out; omega) (fun h => by cases h.1)))
          gi_wp2_with (first | (gi_at_call 82; refine (callsIn_wide.2 (less_at _ _ _ _ _ HQ2)).mono ?_; rintro e1 w2 ⟨rfl, hbl⟩; obtain ⟨y1, rfl⟩ := ovr_of_below hbl; clear hbl) | (gi_at_call 95; refine (callsIn_wide.2 (pjump_any _ _ _)).mono ?_; rintro e1 w2 ⟨rfl, hbl⟩; obtain ⟨y2, rfl⟩ := ovr_of_below hbl; clear hbl))
          have hKK := HKK.out
          refine ⟨by simp, .inl ⟨_, _, rfl, run_takeDeferred (hKK _ (by repeat (first | with_reducible exact KeepsOthers.refl _ | with_reducible refine keeps_in ?_ | with_reducible refine keeps_set ?_ | with_reducible refine keeps_alloc ?_))), ?_⟩⟩
          exact ret6 (a := 0) (b := 0) (c := 0) (j := false) (t := 0) (ok := false) rfl rfl (hKK _ (by repeat (first | with_reducible exact KeepsOthers.refl _ | with_reducible refine keeps_in ?_ | with_reducible refine keeps_set ?_ | with_reducible refine keeps_alloc ?_))) (by simp [go_sem, gr0, lR]) (by simp [go_sem, gr1, lR]) (by simp [go_sem, gr2, lR]) (by simp [go_sem, gr3, lR]) (by simp [go_sem, gr4, lR]) (by simp [go_sem, gb0, lB]) ⟨by rw [HR.out]; rfl, below_put (by omega) (hKK _ (by repeat (first | with_reducible exact KeepsOthers.refl _ | with_reducible refine keeps_in ?_ | with_reducible refine keeps_set ?_ | with_reducible refine keeps_alloc ?_))) (by repeat (first | with_reducible exact hbw | (with_reducible refine below_ovr2 ?_ ?_; rotate_left; · (simp <;> omega)) | (with_reducible refine Below.alloc ?_ ?_ _; rotate_left; · (simp <;> omega)) | (with_reducible refine Below.setCell ?_ ?_ _; rotate_left; · (simp <;> omega))))⟩
      · have hd1 : (((d + 1 + 1 : Nat) : Int) != 1) = true := by rw [bne_iff_ne]; omega
        have HR := Lib.hid (HP2.out.trans (sentNextO_no (by have := HML.out; omega) (fun h => by have := HML.out; omega)))
        cases op
        all_goals (
          gi_wp2_with (first | (gi_at_call 82; refine (callsIn_wide.2 (less_at _ _ _ _ _ HQ2)).mono ?_; rintro e1 w2 ⟨rfl, hbl⟩; obtain ⟨y1, rfl⟩ := ovr_of_below hbl; clear hbl) | (gi_at_call 95; refine (callsIn_wide.2 (pjump_any _ _ _)).mono ?_; rintro e1 w2 ⟨rfl, hbl⟩; obtain ⟨y2, rfl⟩ := ovr_of_below hbl; clear hbl))
          have hKK := HKK.out
          refine ⟨by simp, .inl ⟨_, _, rfl, run_takeDeferred (hKK _ (by repeat (first | with_reducible exact KeepsOthers.refl _ | with_reducible refine keeps_in ?_ | with_reducible refine keeps_set ?_ | with_reducible refine keeps_alloc ?_))), ?_⟩⟩
          exact ret6 (a := 0) (b := 0) (c := 0) (j := false) (t := 0) (ok := false) rfl rfl (hKK _ (by repeat (first | with_reducible exact KeepsOthers.refl _ | with_reducible refine keeps_in ?_ | with_reducible refine keeps_set ?_ | with_reducible refine keeps_alloc ?_))) (by simp [go_sem, gr0, lR]) (by simp [go_sem, gr1, lR]) (by simp [go_sem, gr2, lR]) (by simp [go_sem, gr3, lR]) (by simp [go_sem, gr4, lR]) (by simp [go_sem, gb0, lB]) ⟨by rw [HR.out]; rfl, below_put (by omega) (hKK _ (by repeat (first | with_reducible exact KeepsOthers.refl _ | with_reducible refine keeps_in ?_ | with_reducible refine keeps_set ?_ | with_reducible refine keeps_alloc ?_))) (by repeat (first | with_reducible exact hbw | (with_reducible refine below_ovr2 ?_ ?_; rotate_left; · (simp <;> omega)) | (with_reducible refine Below.alloc ?_ ?_ _; rotate_left; · (simp <;> omega)) | (with_reducible refine Below.setCell ?_ ?_ _; rotate_left; · (simp <;> omega))))⟩)
    case stop =>
      rintro D k pre W hD hsp ⟨⟨rfl, x, y, e1, e2, e3, e4, e5, e6, e7, e8⟩, hB⟩ hK
      have hpf : behR l c (valsP pre) <+: behR l c (sentP L) := behR_prefix hsp
      have HR : Hid (sentNextP L l c m op = (((x : Int), (y : Int), 0, true, -1), true)) := Lib.hid (by
        obtain ⟨t, ht⟩ := hpf
        rw [HP.out]
        refine sentNextO_in (by rw [← ht, List.length_append]; omega) ?_
        rw [← ht, List.getD_eq_getElem?_getD, List.getElem?_append_left (by omega), ← List.getD_eq_getElem?_getD]
        exact e2)
      have r0 := cell_put e3 hK
      have r1 := cell_put e4 hK
      have r2 := cell_put e5 hK
      have r3 := cell_put e6 hK
      have r4 := cell_put e7 hK
      have r5 := cell_put e8 hK
      clear hpf hsp e1 e2
      gi_wp2
      refine ⟨by simp, .inl ⟨_, _, rfl, run_takeDeferred hK, ?_⟩⟩
      exact ⟨movV (((x : Int), (y : Int), 0, true, -1), true), by simp [results, Try.results59, go_sem, r0, r1, r2, r3, r4, r5], by rw [HR.out], below_put (by omega) hK hB⟩
  · have HQ : Hid ((plcB L pl pc && decide (1 ≤ n)) = false) := Lib.hid (by
      rw [Bool.eq_false_iff]; intro e; simp only [Bool.and_eq_true, decide_eq_true_eq] at e; exact h e)
    have HP := Lib.hid (sentNextP_no (op := op) h)
    clear h
    go_enter Try.func59, Try.ntmps59
    go_wp2_with (go_at_call 93; refine (pfails_at _ _ L _ _ _ _ (by (repeat (first | assumption | refine LinesAt.ovr ?_ _ | refine LinesAt.alloc ?_ _ | refine LinesAt.drewN ?_ _ | refine LinesAt.drew ?_))) HQ).mono ?_; rintro e w1 ⟨rfl, hbl⟩; obtain ⟨x, rfl⟩ := ovr_of_below hbl; clear hbl)
    refine bodyPost_ret (v := movV noMov) (by simp [results, Try.results59, go_sem, noMov]) rfl ⟨by rw [HP.out], by (repeat (first | with_reducible exact Below.refl _ _ | (with_reducible refine Below.setCell ?_ ?_ _; rotate_left; · (first | exact Nat.le_refl _ | assumption | omega | (simp; done) | (simp; omega))) | (with_reducible refine Below.alloc ?_ ?_ _; rotate_left; · (first | exact Nat.le_refl _ | assumption | omega | (simp; done) | (simp; omega))) | with_reducible refine below_ovr_of ?_ | with_reducible refine drew_below ?_ _ | with_reducible refine Below.drew ?_ | with_reducible assumption))⟩
end Go.Proofs.Ytnaceobbbfbhhaa
