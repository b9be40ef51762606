/- The contract of find.Search. Conditions: none beyond what it says. -/
import Derived.Test.YtnaceobbbfbhhaaRow3
import Derived.Test.YtnaceobbbfbhhaaAll
import Derived.Test.YtnaceobbbfbhhaaCat3
import Derived.Test.YtnaceobbbfbhhaaSent8
import Derived.Test.YtnaceobbbfbhhaaRev
import Derived.Maps.OwnIn
namespace Go.Proofs.Ytnaceobbbfbhhaa
open Go.RowKit Go.Shelf

attribute [local go_sem] Oper.semAt_some
theorem own_box {X : World} {n C : Nat} {k : Nat} {xs : List Value} {v u : Value} (h : X.ownsRow n 46 2 v k xs) (hC : Boxed X C 48 u) (u' : Value) : (X.setCell ⟨C, 0, none⟩ u').ownsRow n 46 2 v k xs :=
  h.kept (grownBy_setCell' X C u') (.inr (hC.not_row (by decide) h).symm)
theorem ret5f {W' : World} {D Rb : Nat} {a b c t : Int} {j ok : Bool} {tm : Array Value} {Q : Value → Prop} (h6 : tm.getD 10 undef = .pointer (some ⟨Rb, 0, none⟩)) (h7 : tm.getD 11 undef = .bool ok) (hK : W'.heap[D]? = some (.deferred (some [])))
    (c0 : W'.cell? ⟨Rb, 0, none⟩ = some (.int .i64 a)) (c1 : W'.cell? ⟨Rb, 1, none⟩ = some (.int .i64 b)) (c2 : W'.cell? ⟨Rb, 2, none⟩ = some (.int .i64 c)) (c3 : W'.cell? ⟨Rb, 3, none⟩ = some (.bool j)) (c4 : W'.cell? ⟨Rb, 4, none⟩ = some (.int .i64 t)) (hQ : Q (movV ((a, b, c, j, t), ok))) :
    ∃ v, (results Try.f43 tm).run Try.prog (W'.putObj D (.deferred none)) = .ok v (W'.putObj D (.deferred none)) ∧ Q v := by
  have r0 := cell_put c0 hK
  have r1 := cell_put c1 hK
  have r2 := cell_put c2 hK
  have r3 := cell_put c3 hK
  have r4 := cell_put c4 hK
  rw [Array.getD_eq_getD_getElem?] at h6 h7
  exact ⟨_, by simp [results, Try.results43, go_sem, h6, h7, r0, r1, r2, r3, r4], hQ⟩
theorem all_stops (Bl Bt m : Nat) (a : Option Addr) (cap : Nat) (L : List ByteArray) (t : ByteArray) (E : List Nat) (W : World) (hsz : L.length + total L ≤ 100000) (hm : L.length + total L ≤ m) (ht : t.size ≤ 100000)
    (hBl : W.cell? ⟨Bl, 0, none⟩ = some (.slice a L.length cap)) (hBt : W.cell? ⟨Bt, 0, none⟩ = some (.string t)) (hL : LinesAt W a L) (hBE : Bl ∉ E) (hTE : Bt ∉ E) (hE : ∀ b off, a = some ⟨b, off, none⟩ → b < W.heap.size ∧ b ∉ E) :
    SeqStopsK Fence.wide 8 Try.prog 79 #[.pointer (some ⟨Bt, 0, none⟩), .pointer (some ⟨Bl, 0, none⟩)] (fun x : Plc m => #[Value.agg #[Value.int .i64 (x.1.1 : Int), Value.int .i64 (x.1.2 : Int)]]) (Typ 3 W.heap.size E)
      (fun ys => ys.map Subtype.val = allP L t) (fun pre => pre.map Subtype.val <+: allP L t) 100000 W := fun l J Jx X hX hJ _ hY h0 =>
  all1_in 8 (by omega) l Bl Bt m a cap L t (Typ 3 W.heap.size E) 100000 hsz hm hsz ht
    (fun A B hk hc hl => ⟨hk.cell (World.block_lt_of_cell? _ _ hBl) hBE hc, lines_typ hk hl hE⟩)
    (fun A B hk hc => hk.cell (World.block_lt_of_cell? _ _ hBt) hTE hc)
    J Jx (fun pre A B h g => hJ pre A B none h g (fun r e => by cases e)) (fun pre x A h hl => hY pre x A h hl)
    X ((hX.cell (p := ⟨Bl, 0, none⟩) (World.block_lt_of_cell? _ _ hBl)).trans hBl) ((hX.cell (p := ⟨Bt, 0, none⟩) (World.block_lt_of_cell? _ _ hBt)).trans hBt) (hL.below hX (Nat.le_refl _)) h0
set_option maxRecDepth 100000 in
set_option maxHeartbeats 8000000 in
theorem psearch_any (a : Option Addr) (cap : Nat) (L : List ByteArray) (pl pc n : Int) (t : ByteArray) (back : Bool) (w : World) (hL : LinesAt w a L) (htot : L.length + total L ≤ 100000) (ht : t.size ≤ 100000) (hn2 : n ≤ 9223372036854775807) :
    Calls Try.prog 43 #[.slice a L.length cap, .agg #[.int .i64 pl, .int .i64 pc], .string t, .bool back, .int .i64 n] w fun e w' => e = .returned (movV (searchP L pl pc t back n)) ∧ Below w.heap.size w w' := by
  have hn := hL.2.1
  by_cases h : plcB L pl pc = true ∧ 1 ≤ n
  · obtain ⟨hp, h1⟩ := h
    have HP := Lib.hid hp
    obtain ⟨p1, p2, p3, p4⟩ := plcB_spec hp
    obtain ⟨l, rfl⟩ := Int.eq_ofNat_of_zero_le p1
    obtain ⟨c, rfl⟩ := Int.eq_ofNat_of_zero_le p3
    have hnn : ¬ n < 1 := by omega
    have hRl := (allP_in (L := L) (t := t)).2
    have hRs := Lib.hid (allP_sorted L t)
    have HY := Lib.hid (show searchP L l c t back n = if allP L t ≠ [] then fndM ((rndP l c (allP L t) back).getD ((min n 1073741824 - 1) % ((allP L t).length : Int)).toNat (0, 0)) else noMov by
      rw [searchP]
      by_cases h0 : allP L t ≠ []
      · rw [if_pos h0, if_pos ⟨hp, h1, h0⟩]
      · rw [if_neg h0, if_neg (fun h => h0 h.2.2)])
    obtain ⟨i0, hi, hz0, hz1, hz2⟩ := info_parts infoPos
    clear hp
    refine (callsIn_wide (n := 9)).1 ?_
    refine callsIn_of_wp_marks Try.func43 rfl trivial ?_ rfl
    simp only [Try.ntmps43, List.size_toArray, List.length_cons, List.length_nil, Nat.reduceAdd, Nat.reduceSub, Array.replicate_succ, Array.replicate_zero, List.push_toArray, List.append_toArray, List.nil_append, List.cons_append]
    gi_wp2_with (first
      | (gi_at_call 81; refine (callsIn_wide.2 (place_at _ _ L _ _ _ (by (repeat (first | assumption | refine LinesAt.ovr ?_ _ | refine LinesAt.alloc ?_ _ | refine LinesAt.drewN ?_ _ | refine LinesAt.drew ?_))) HP)).mono ?_; rintro e1 w1 ⟨rfl, hbl⟩; obtain ⟨x1, rfl⟩ := ovr_of_below hbl; clear hbl)
      | (gi_at_call 40; refine (callsIn_wide.2 (pall_any _ _ L t _)).mono ?_; rintro e1 w1 ⟨rfl, rfl⟩))
    -- from here by gen_fs.py
    obtain ⟨Ab, hAb⟩ : ∃ Ab, w.heap.size + 1 + 1 + x1.heap.size = Ab := ⟨_, rfl⟩
    rw [hAb]
    obtain ⟨Bb, hBb⟩ : ∃ Bb, Ab + 1 = Bb := ⟨_, rfl⟩
    rw [hBb]
    obtain ⟨Bo, hBo⟩ : ∃ Bo, Bb + 1 = Bo := ⟨_, rfl⟩
    rw [hBo]
    obtain ⟨Bl, hBl⟩ : ∃ Bl, Bo + 1 = Bl := ⟨_, rfl⟩
    rw [hBl]
    obtain ⟨Bt, hBt⟩ : ∃ Bt, Bl + 1 = Bt := ⟨_, rfl⟩
    rw [hBt]
    refine name_worldIn ?_
    intro W1 hW1
    have cp0 : W1.cell? ⟨w.heap.size, 0, none⟩ = some (.int .i64 l) := by rw [hW1]; simp [go_sem]
    have cp1 : W1.cell? ⟨w.heap.size, 1, none⟩ = some (.int .i64 c) := by rw [hW1]; simp [go_sem]
    have cr0 : W1.cell? ⟨w.heap.size + 1, 0, none⟩ = some (.int .i64 0) := by rw [hW1]; simp [go_sem]
    have cr1 : W1.cell? ⟨w.heap.size + 1, 1, none⟩ = some (.int .i64 0) := by rw [hW1]; simp [go_sem]
    have cr2 : W1.cell? ⟨w.heap.size + 1, 2, none⟩ = some (.int .i64 0) := by rw [hW1]; simp [go_sem]
    have cr3 : W1.cell? ⟨w.heap.size + 1, 3, none⟩ = some (.bool false) := by rw [hW1]; simp [go_sem]
    have cr4 : W1.cell? ⟨w.heap.size + 1, 4, none⟩ = some (.int .i64 0) := by rw [hW1]; simp [go_sem]
    have cf0 : W1.frozen? ⟨w.heap.size + 1, 0, none⟩ = false := by rw [hW1]; simp [go_sem]
    have cf1 : W1.frozen? ⟨w.heap.size + 1, 1, none⟩ = false := by rw [hW1]; simp [go_sem]
    have cf2 : W1.frozen? ⟨w.heap.size + 1, 2, none⟩ = false := by rw [hW1]; simp [go_sem]
    have cf3 : W1.frozen? ⟨w.heap.size + 1, 3, none⟩ = false := by rw [hW1]; simp [go_sem]
    have cf4 : W1.frozen? ⟨w.heap.size + 1, 4, none⟩ = false := by rw [hW1]; simp [go_sem]
    have hBlc : W1.cell? ⟨Bl, 0, none⟩ = some (.slice a L.length cap) := by rw [hW1, ← hBl, ← hBo, ← hBb, ← hAb]; simp [go_sem]
    have hBtc : W1.cell? ⟨Bt, 0, none⟩ = some (.string t) := by rw [hW1, ← hBt, ← hBl, ← hBo, ← hBb, ← hAb]; simp [go_sem]
    have bA : Boxed W1 Ab 48 (.slice none 0 0) := by rw [hW1]; exact ((((boxed_new' _ _ _ (by rw [← hAb]; simp)).alloc _).alloc _).alloc _).alloc _
    have bB : Boxed W1 Bb 48 (.slice none 0 0) := by rw [hW1]; exact (((boxed_new' _ _ _ (by rw [← hBb, ← hAb]; simp)).alloc _).alloc _).alloc _
    have bO : Boxed W1 Bo 48 (.slice none 0 0) := by rw [hW1]; exact ((boxed_new' _ _ _ (by rw [← hBo, ← hBb, ← hAb]; simp)).alloc _).alloc _
    have hbel : Below w.heap.size w W1 := by rw [hW1]; (repeat (first | with_reducible exact Below.refl _ _ | (with_reducible refine Below.setCell ?_ ?_ _; rotate_left; · (first | exact Nat.le_refl _ | assumption | omega | (simp; done) | (simp; omega))) | (with_reducible refine Below.alloc ?_ ?_ _; rotate_left; · (first | exact Nat.le_refl _ | assumption | omega | (simp; done) | (simp; omega))) | with_reducible refine below_ovr_of ?_ | with_reducible refine drew_below ?_ _ | with_reducible refine Below.drew ?_ | with_reducible assumption))
    have hsz : W1.heap.size = Bt + 1 := by rw [hW1, ← hBt, ← hBl, ← hBo, ← hBb, ← hAb]; simp
    have hAbw : w.heap.size + 1 < Ab := by omega
    have hAB : Ab < Bb := by omega
    have hBO : Bb < Bo := by omega
    have hOL : Bo < Bl := by omega
    have hLT : Bl < Bt := by omega
    have hTs : Bt < W1.heap.size := by omega
    have hLW := hL.below hbel (Nat.le_refl _)
    have hbelS := hbel.size
    obtain ⟨bb, off, s0, hab, hbb, _, _, _⟩ := line_facts' hL (i := 0) (by omega)
    subst hab
    clear hW1 hAb hBb hBo hBl hBt hsz
    have hOwn : OwnFrom W1.heap.size (fun (pre : List (Plc 100000)) W => Row3 W W1.heap.size Ab Bb Bo (fAhd l c (valsP pre)) (behR l c (valsP pre)) (fOwn l c (valsP pre)) ∧ Typ 3 W1.heap.size [Ab, Bb, Bo] W1 W) :=
      OwnFrom.and (row3_own _ _ _ _ _ (fun s : List (Plc 100000) => fAhd l c (valsP s)) (fun s => behR l c (valsP s)) (fun s => fOwn l c (valsP s))) (typFrom (Nat.le_refl _))
    refine wpIn_rangeFunc_ownH rfl (by omega) (gf := 79) (lb := #[.pointer (some ⟨Bt, 0, none⟩), .pointer (some ⟨Bl, 0, none⟩)]) rfl trivial (enters_of Try.func79 (by kernel_rfl) rfl)
      (all_stops Bl Bt 100000 (some ⟨bb, off, none⟩) cap L t [Ab, Bb, Bo] W1 htot htot ht hBlc hBtc hLW (by simp; omega) (by simp; omega) (by intro b' off' e'; cases e'; exact ⟨by omega, by simp; omega⟩)) (fun h k => Typ.trans h k) (typK_b (Nat.le_refl _)) (Below.refl _ _) (fun _ => rfl)
      _
      (fun _ _ _ => False)
      hOwn
      (fun _ _ _ _ _ h _ _ => h)
      ⟨⟨_, _, _, ⟨bA, World.ownsRow_nil _ _ _ _⟩, ⟨bB, World.ownsRow_nil _ _ _ _⟩, ⟨bO, World.ownsRow_nil _ _ _ _⟩, by intro j h; simp [Value.ownBlock] at h, by intro j h; simp [Value.ownBlock] at h, by intro j h; simp [Value.ownBlock] at h⟩, Typ.refl _ _ _ _⟩
      (fun x a' W => ∃ Bx, W1.heap.size ≤ Bx ∧ Box2 W Bx 46 (.int .i64 (x.1.1 : Int)) (.int .i64 (x.1.2 : Int)) ∧ a' = { tmps := #[.slice (some ⟨bb, off, none⟩) L.length cap, .agg #[.int .i64 l, .int .i64 c], .string t, .bool back, .int .i64 n, undef, .pointer (some ⟨w.heap.size, 0, none⟩), undef, undef, undef, .pointer (some ⟨w.heap.size + 1, 0, none⟩), .bool false, .pointer (some ⟨Ab, 0, none⟩), .pointer (some ⟨Bb, 0, none⟩), .pointer (some ⟨Bo, 0, none⟩), .pointer (some ⟨Bx, 0, none⟩), undef, undef, .int .i64 n, .bool false, .bool false, .slice (some ⟨bb, off, none⟩) L.length cap, .agg #[.int .i64 l, .int .i64 c], .bool true, .bool false, .bool false, undef, .slice (some ⟨bb, off, none⟩) L.length cap, .string t, .func (.func 79) #[] #[.pointer (some ⟨Bt, 0, none⟩), .pointer (some ⟨Bl, 0, none⟩)], .agg #[.int .i64 (x.1.1 : Int), .int .i64 (x.1.2 : Int)], undef, undef, undef, undef, undef, undef, undef, undef, undef, undef, undef, undef, undef, undef, undef, undef, undef, undef, undef, undef, undef, undef, undef, undef, undef, undef, undef, undef, undef, undef, undef, undef, undef, undef, undef, undef, undef, undef, undef, undef, undef, undef, undef, undef, undef, undef, undef], defers := [] })
      (fun x a' _ X Y row ⟨Bx, h1, h2, h3⟩ hg hr => ⟨Bx, h1, Box2.own (β := Unit) Bx _ _ _ _ () X Y row h2 hg hr, h3⟩)
      ?assign ?body ?done ?stop
    case stop => exact fun _ _ _ _ _ _ h _ => h.elim
    case assign =>
      intro l' pre x W K hI hK
      gi_wp2
      exact hK _ _ ((KeepsOthers.alloc W _).from _) ((Typ.refl _ _ _ W).alloc _) (hOwn.alloc _ hI) ⟨W.heap.size, hI.2.size, World.alloc_heap_new W _, rfl⟩
    case body =>
      rintro l' pre x a' W _ _ ⟨⟨va, vb, vo, ha, hb, ho, q1, q2, q3⟩, hB⟩ ⟨Bx, hBx, hx, rfl⟩ hN
      have hca := ha.1.cell
      have hcb := hb.1.cell
      have hco := ho.1.cell
      have hx0 := hx.c0
      have hx1 := hx.c1
      have hxl := hx.lt
      have hBs := hB.size
      have gp0 : W.cell? ⟨w.heap.size, 0, none⟩ = some (.int .i64 l) := hB.cell (by omega) (by simp <;> omega) cp0
      have gp1 : W.cell? ⟨w.heap.size, 1, none⟩ = some (.int .i64 c) := hB.cell (by omega) (by simp <;> omega) cp1
      have lP : w.heap.size < W.heap.size := by omega
      have lA := ha.1.lt
      have lB := hb.1.lt
      have lO := ho.1.lt
      have hlenA : (fAhd l c (valsP pre)).length + 1 ≤ 100000 := by have := List.length_filter_le (fun s : Nat × Nat => lessB (s.1 : Int) (s.2 : Int) l c) (valsP pre); simp only [fAhd]; rw [List.length_map] at this; omega
      have hlenB : (behR l c (valsP pre)).length + 1 ≤ 100000 := by have := behR_len l c (valsP pre); rw [List.length_map] at this; omega
      have hlenO : (fOwn l c (valsP pre)).length + 1 ≤ 100000 := by have := List.length_filter_le (fun s : Nat × Nat => !lessB (s.1 : Int) (s.2 : Int) l c && !lessB l c (s.1 : Int) (s.2 : Int)) (valsP pre); simp only [fOwn]; rw [List.length_map] at this; omega
      have sA := fAhd_snoc (l := l) (c := c) (pre := pre) (x := x)
      have sB := behR_snoc' (l := l) (c := c) (pre := pre) (x := x)
      have sO := fOwn_snoc (l := l) (c := c) (pre := pre) (x := x)
      obtain ⟨ra, hra⟩ : ∃ ra, fAhd l c (valsP pre) = ra := ⟨_, rfl⟩
      obtain ⟨rb, hrb⟩ : ∃ rb, behR l c (valsP pre) = rb := ⟨_, rfl⟩
      obtain ⟨ro, hro⟩ : ∃ ro, fOwn l c (valsP pre) = ro := ⟨_, rfl⟩
      rw [hra] at sA ha hlenA
      rw [hrb] at sB hb hlenB
      rw [hro] at sO ho hlenO
      obtain ⟨ax, hax⟩ := own_slice ha.2
      obtain ⟨bx, hbx⟩ := own_slice hb.2
      obtain ⟨ox, hox⟩ := own_slice ho.2
      clear hN hra hrb hro hax hbx hox
      have HCA := Lib.hid (cellsV_snoc ra x.1)
      have HCB := Lib.hid (cellsV_snoc rb x.1)
      have HCO := Lib.hid (cellsV_snoc ro x.1)
      obtain ⟨q, hq⟩ : ∃ q, lessB (x.1.1 : Int) (x.1.2 : Int) l c = q := ⟨_, rfl⟩
      obtain ⟨qq, hqq⟩ : ∃ qq, lessB l c (x.1.1 : Int) (x.1.2 : Int) = qq := ⟨_, rfl⟩
      have hexc : ¬ (q = true ∧ qq = true) := by
        rintro ⟨rfl, rfl⟩
        simp only [lessB, decide_eq_true_eq] at hq hqq
        omega
      rw [hq] at sA sO
      rw [hqq] at sB sO
      have HQ2 := Lib.hid hq
      have HQ3 := Lib.hid hqq
      clear hq hqq
      cases q with
      | true =>
        obtain rfl : qq = false := by cases qq with | false => rfl | true => exact absurd ⟨rfl, rfl⟩ hexc
        have SA : Hid (fAhd l c (valsP (pre ++ [x])) = ra ++ [x.1]) := Lib.hid (by rw [sA]; simp)
        have SB : Hid (behR l c (valsP (pre ++ [x])) = rb) := Lib.hid (by rw [sB]; simp)
        have SO : Hid (fOwn l c (valsP (pre ++ [x])) = ro) := Lib.hid (by rw [sO]; simp)
        clear sA sB sO hexc
        gi_wp2_with fail
        (gi_at_call 82; refine (callsIn_wide.2 (less_at _ _ _ _ _ HQ2)).mono ?_; rintro e1 w5 ⟨rfl, hbl⟩; obtain ⟨y1, rfl⟩ := ovr_of_below hbl; clear hbl)
        gi_wp2_with (gi_at_builtin; refine wpListIn_append_own_at _ rfl _ _ 48 rfl W1.heap.size 46 i0 (.agg #[.int .i64 0, .int .i64 0]) 2 16 Try.underlying48 hi hz0 hz1 hz2 rfl (by decide) _ _ _ rfl (((ha.ovr y1)).alloc _).2 ⟨W.heap.size + y1.heap.size, 0, none⟩ 1 1 [.int .i64 (x.1.1 : Int), .int .i64 (x.1.2 : Int)] rfl rfl (cell_two_new' (by simp) _ _ _) (by intro u hu; simp at hu; rcases hu with rfl | rfl <;> rfl) (by unfold maxLen; omega) (by omega) (by simp; omega) ?_; intro v' w1 hown' hgrow _ hat; obtain ⟨g', cap', rfl⟩ := ownsRow_succ hown'; obtain ⟨hv1, hv2⟩ := Row1.appended (r' := ra ++ [x.1]) ((ha.ovr y1)) hgrow (by rw [HCA.out]; simpa using hown'); have hc1 := hv1.cell; have hf1 := hv1.frozen; have hc2 := hv2.1.cell)
        obtain ⟨kb, pb⟩ := Row1.other (hb.ovr y1) (ha.ovr y1) q1 (by omega) hgrow hat
        obtain ⟨ko, po⟩ := Row1.other (ho.ovr y1) (ha.ovr y1) q2 (by omega) hgrow hat
        obtain ⟨_, _, _, hk2, hb2⟩ := typ_appended (t0 := 3) (E := [Ab, Bb, Bo]) (X := (ovr W y1)) (v' := .slice (some ⟨g', 0, none⟩) (ra.length + 1) cap') (ha.ovr y1).1 (by decide) (by decide) (ha.ovr y1).2 hown' hgrow (by simp; omega) (by simp)
        have hk3 := ((KeepsOthers.refl W).trans (keeps_ovr _ y1)).trans hk2
        have hb3 := (typ_ovr (x := y1) (Typ.refl 3 W1.heap.size [Ab, Bb, Bo] W)).trans hb2
        refine ⟨hk3.from _, hb3, ⟨_, _, _, by rw [SA.out]; exact hv2, by rw [SB.out]; exact kb, by rw [SO.out]; exact ko, pb, po, q3⟩, hB.trans hb3⟩
      | false =>
        cases qq with
        | true =>
          have SA : Hid (fAhd l c (valsP (pre ++ [x])) = ra) := Lib.hid (by rw [sA]; simp)
          have SB : Hid (behR l c (valsP (pre ++ [x])) = rb ++ [x.1]) := Lib.hid (by rw [sB]; simp)
          have SO : Hid (fOwn l c (valsP (pre ++ [x])) = ro) := Lib.hid (by rw [sO]; simp)
          clear sA sB sO hexc
          gi_wp2_with fail
          (gi_at_call 82; refine (callsIn_wide.2 (less_at _ _ _ _ _ HQ2)).mono ?_; rintro e1 w5 ⟨rfl, hbl⟩; obtain ⟨y1, rfl⟩ := ovr_of_below hbl; clear hbl)
          gi_wp2_with fail
          (gi_at_call 82; refine (callsIn_wide.2 (less_at _ _ _ _ _ HQ3)).mono ?_; rintro e2 w6 ⟨rfl, hbl⟩; obtain ⟨y2, rfl⟩ := ovr_of_below hbl; clear hbl)
          gi_wp2_with (gi_at_builtin; refine wpListIn_append_own_at _ rfl _ _ 48 rfl W1.heap.size 46 i0 (.agg #[.int .i64 0, .int .i64 0]) 2 16 Try.underlying48 hi hz0 hz1 hz2 rfl (by decide) _ _ _ rfl ((((hb.ovr y1).ovr y2)).alloc _).2 ⟨W.heap.size + y1.heap.size + y2.heap.size, 0, none⟩ 1 1 [.int .i64 (x.1.1 : Int), .int .i64 (x.1.2 : Int)] rfl rfl (cell_two_new' (by simp) _ _ _) (by intro u hu; simp at hu; rcases hu with rfl | rfl <;> rfl) (by unfold maxLen; omega) (by omega) (by simp; omega) ?_; intro v' w1 hown' hgrow _ hat; obtain ⟨g', cap', rfl⟩ := ownsRow_succ hown'; obtain ⟨hv1, hv2⟩ := Row1.appended (r' := rb ++ [x.1]) (((hb.ovr y1).ovr y2)) hgrow (by rw [HCB.out]; simpa using hown'); have hc1 := hv1.cell; have hf1 := hv1.frozen; have hc2 := hv2.1.cell)
          obtain ⟨ka, pa⟩ := Row1.other ((ha.ovr y1).ovr y2) ((hb.ovr y1).ovr y2) q1.symm (by omega) hgrow hat
          obtain ⟨ko, po⟩ := Row1.other ((ho.ovr y1).ovr y2) ((hb.ovr y1).ovr y2) q3 (by omega) hgrow hat
          obtain ⟨_, _, _, hk2, hb2⟩ := typ_appended (t0 := 3) (E := [Ab, Bb, Bo]) (X := (ovr (ovr W y1) y2)) (v' := .slice (some ⟨g', 0, none⟩) (rb.length + 1) cap') ((hb.ovr y1).ovr y2).1 (by decide) (by decide) ((hb.ovr y1).ovr y2).2 hown' hgrow (by simp; omega) (by simp)
          have hk3 := (((KeepsOthers.refl W).trans (keeps_ovr _ y1)).trans (keeps_ovr _ y2)).trans hk2
          have hb3 := (typ_ovr (x := y2) (typ_ovr (x := y1) (Typ.refl 3 W1.heap.size [Ab, Bb, Bo] W))).trans hb2
          refine ⟨hk3.from _, hb3, ⟨_, _, _, by rw [SA.out]; exact ka, by rw [SB.out]; exact hv2, by rw [SO.out]; exact ko, pa.symm, q2, po⟩, hB.trans hb3⟩
        | false =>
          have SA : Hid (fAhd l c (valsP (pre ++ [x])) = ra) := Lib.hid (by rw [sA]; simp)
          have SB : Hid (behR l c (valsP (pre ++ [x])) = rb) := Lib.hid (by rw [sB]; simp)
          have SO : Hid (fOwn l c (valsP (pre ++ [x])) = ro ++ [x.1]) := Lib.hid (by rw [sO]; simp)
          clear sA sB sO hexc
          gi_wp2_with fail
          (gi_at_call 82; refine (callsIn_wide.2 (less_at _ _ _ _ _ HQ2)).mono ?_; rintro e1 w5 ⟨rfl, hbl⟩; obtain ⟨y1, rfl⟩ := ovr_of_below hbl; clear hbl)
          gi_wp2_with fail
          (gi_at_call 82; refine (callsIn_wide.2 (less_at _ _ _ _ _ HQ3)).mono ?_; rintro e2 w6 ⟨rfl, hbl⟩; obtain ⟨y2, rfl⟩ := ovr_of_below hbl; clear hbl)
          gi_wp2_with (gi_at_builtin; refine wpListIn_append_own_at _ rfl _ _ 48 rfl W1.heap.size 46 i0 (.agg #[.int .i64 0, .int .i64 0]) 2 16 Try.underlying48 hi hz0 hz1 hz2 rfl (by decide) _ _ _ rfl ((((ho.ovr y1).ovr y2)).alloc _).2 ⟨W.heap.size + y1.heap.size + y2.heap.size, 0, none⟩ 1 1 [.int .i64 (x.1.1 : Int), .int .i64 (x.1.2 : Int)] rfl rfl (cell_two_new' (by simp) _ _ _) (by intro u hu; simp at hu; rcases hu with rfl | rfl <;> rfl) (by unfold maxLen; omega) (by omega) (by simp; omega) ?_; intro v' w1 hown' hgrow _ hat; obtain ⟨g', cap', rfl⟩ := ownsRow_succ hown'; obtain ⟨hv1, hv2⟩ := Row1.appended (r' := ro ++ [x.1]) (((ho.ovr y1).ovr y2)) hgrow (by rw [HCO.out]; simpa using hown'); have hc1 := hv1.cell; have hf1 := hv1.frozen; have hc2 := hv2.1.cell)
          obtain ⟨ka, pa⟩ := Row1.other ((ha.ovr y1).ovr y2) ((ho.ovr y1).ovr y2) q2.symm (by omega) hgrow hat
          obtain ⟨kb, pb⟩ := Row1.other ((hb.ovr y1).ovr y2) ((ho.ovr y1).ovr y2) q3.symm (by omega) hgrow hat
          obtain ⟨_, _, _, hk2, hb2⟩ := typ_appended (t0 := 3) (E := [Ab, Bb, Bo]) (X := (ovr (ovr W y1) y2)) (v' := .slice (some ⟨g', 0, none⟩) (ro.length + 1) cap') ((ho.ovr y1).ovr y2).1 (by decide) (by decide) ((ho.ovr y1).ovr y2).2 hown' hgrow (by simp; omega) (by simp)
          have hk3 := (((KeepsOthers.refl W).trans (keeps_ovr _ y1)).trans (keeps_ovr _ y2)).trans hk2
          have hb3 := (typ_ovr (x := y2) (typ_ovr (x := y1) (Typ.refl 3 W1.heap.size [Ab, Bb, Bo] W))).trans hb2
          refine ⟨hk3.from _, hb3, ⟨_, _, _, by rw [SA.out]; exact ka, by rw [SB.out]; exact kb, by rw [SO.out]; exact hv2, q1, pa.symm, pb.symm⟩, hB.trans hb3⟩
    case done =>
      rintro D ys W hD hys ⟨⟨va, vb, vo, ha, hb, ho, q1, q2, q3⟩, hB⟩ hK
      have hR : valsP ys = allP L t := hys
      rw [hR] at ha hb ho
      have hlen := len3 (l := l) (c := c) hRs.out
      have HRn := Lib.hid (show allP L t = [] ↔ (allP L t).length = 0 from List.length_eq_zero_iff.symm)
      obtain ⟨ra, hra⟩ : ∃ ra, fAhd l c (allP L t) = ra := ⟨_, rfl⟩
      obtain ⟨rb, hrb⟩ : ∃ rb, behR l c (allP L t) = rb := ⟨_, rfl⟩
      obtain ⟨ro, hro⟩ : ∃ ro, fOwn l c (allP L t) = ro := ⟨_, rfl⟩
      have hY0 := HY.out
      rw [rndP, hra, hrb, hro] at hY0
      rw [hra] at ha hlen
      rw [hrb] at hb hlen
      rw [hro] at ho hlen
      have HY1 := Lib.hid hY0
      clear hys hR hra hrb hro hY0 HY
      have hBs := hB.size
      have hKK := fun (W' : World) (h : KeepsOthers W W') => h.same D _ hK rfl
      have HKK := Lib.hid hKK
      clear hKK
      obtain ⟨aa, ca, hve, hpa⟩ := pairs_of_owns ha.2
      subst hve
      obtain ⟨ab, cb, hve, hpb⟩ := pairs_of_owns hb.2
      subst hve
      obtain ⟨ao, co, hve, hpo⟩ := pairs_of_owns ho.2
      subst hve
      have hca := ha.1.cell
      have hcb := hb.1.cell
      have hco := ho.1.cell
      have hnI : (0 : Int) ≤ n - 1 := by omega
      cases back with
      | false =>
        have HY2 : Hid (searchP L l c t false n = if allP L t ≠ [] then fndM ((rb ++ (ra ++ ro)).getD ((min n 1073741824 - 1) % ((allP L t).length : Int)).toNat (0, 0)) else noMov) := Lib.hid (HY1.out.trans (by simp))
        clear HY1
        gi_wp2_with fail
        obtain ⟨r1, rfl⟩ : ∃ r1, r1 = rb := ⟨_, rfl⟩
        obtain ⟨r2, rfl⟩ : ∃ r2, r2 = ra := ⟨_, rfl⟩
        obtain ⟨a1, rfl⟩ : ∃ a1, a1 = ab := ⟨_, rfl⟩
        obtain ⟨a2, rfl⟩ : ∃ a2, a2 = aa := ⟨_, rfl⟩
        obtain ⟨c1, rfl⟩ : ∃ c1, c1 = cb := ⟨_, rfl⟩
        obtain ⟨c2, rfl⟩ : ∃ c2, c2 = ca := ⟨_, rfl⟩
        obtain ⟨W4, rfl⟩ : ∃ W4, W4 = W := ⟨_, rfl⟩
        have hB4 := hB
        have hK4 := KeepsOthers.refl W4
        have hsum : r1.length + r2.length + ro.length = (allP L t).length := by omega
        have p1' := hpb
        have p2' := hpa
        have p3' := hpo
        clear hca hcb hco ha hb ho hpa hpb hpo q1 q2 q3 hlen hB
        have HK4 := Lib.hid (fun (W' : World) (h : KeepsOthers W4 W') => HKK.out W' (hK4.trans h))
        have hs4 := hB4.size
        have gr0 : W4.cell? ⟨w.heap.size + 1, 0, none⟩ = some (.int .i64 0) := hB4.cell (by omega) (by simp <;> omega) cr0
        have gr1 : W4.cell? ⟨w.heap.size + 1, 1, none⟩ = some (.int .i64 0) := hB4.cell (by omega) (by simp <;> omega) cr1
        have gr2 : W4.cell? ⟨w.heap.size + 1, 2, none⟩ = some (.int .i64 0) := hB4.cell (by omega) (by simp <;> omega) cr2
        have gr3 : W4.cell? ⟨w.heap.size + 1, 3, none⟩ = some (.bool false) := hB4.cell (by omega) (by simp <;> omega) cr3
        have gr4 : W4.cell? ⟨w.heap.size + 1, 4, none⟩ = some (.int .i64 0) := hB4.cell (by omega) (by simp <;> omega) cr4
        have gf0 : W4.frozen? ⟨w.heap.size + 1, 0, none⟩ = false := (hB4.frozen (by omega) (by omega) (by simp <;> omega)).trans cf0
        have gf1 : W4.frozen? ⟨w.heap.size + 1, 1, none⟩ = false := (hB4.frozen (by omega) (by omega) (by simp <;> omega)).trans cf1
        have gf2 : W4.frozen? ⟨w.heap.size + 1, 2, none⟩ = false := (hB4.frozen (by omega) (by omega) (by simp <;> omega)).trans cf2
        have gf3 : W4.frozen? ⟨w.heap.size + 1, 3, none⟩ = false := (hB4.frozen (by omega) (by omega) (by simp <;> omega)).trans cf3
        have gf4 : W4.frozen? ⟨w.heap.size + 1, 4, none⟩ = false := (hB4.frozen (by omega) (by omega) (by simp <;> omega)).trans cf4
        have hbw : Below w.heap.size w W4 := hB4.below hbel (by omega) (by omega) (by simp <;> omega)
        have lR : w.heap.size + 1 < W4.heap.size := by omega
        clear HKK hK4
        gi_at_call 84
        refine (callsIn_wide.2 (cat3_any W4 r1 r2 ro a1 a2 ao c1 c2 co _ rfl p1' p2' p3' (by omega))).mono ?_
        rintro e1 w3 ⟨av, cv, rfl, hpv, hbl⟩
        obtain ⟨y3, rfl⟩ := ovr_of_below hbl
        clear hbl p1' p2' p3'
        obtain ⟨S, hS⟩ : ∃ S, r1 ++ (r2 ++ ro) = S := ⟨_, rfl⟩
        have hSl : S.length = (allP L t).length := by rw [← hS]; simp only [List.length_append]; omega
        rw [hS] at hpv HY2
        try rw [hS]
        obtain ⟨N, hN⟩ : ∃ N, (allP L t).length = N := ⟨_, rfl⟩
        rw [hN] at HY2 HRn hSl hRl
        clear hS hsum hN hB4
        by_cases h0 : N = 0
        · have h0I : ((N : Int) == 0) = true := by rw [beq_iff_eq]; omega
          have HR : Hid (searchP L l c t false n = noMov) := Lib.hid (by rw [HY2.out, if_neg (fun h => h (HRn.out.2 h0))])
          clear HY2 HRn h0
          gi_wp2
          have hKK := HK4.out
          refine ⟨by simp, .inl ⟨_, _, rfl, run_takeDeferred (hKK _ (by repeat (first | with_reducible exact KeepsOthers.refl _ | with_reducible refine keeps_in ?_ | with_reducible refine keeps_set ?_ | with_reducible refine keeps_alloc ?_))), ?_⟩⟩
          exact ret5f (a := 0) (b := 0) (c := 0) (j := false) (t := 0) (ok := false) rfl rfl (hKK _ (by repeat (first | with_reducible exact KeepsOthers.refl _ | with_reducible refine keeps_in ?_ | with_reducible refine keeps_set ?_ | with_reducible refine keeps_alloc ?_))) (by simp [go_sem, gr0, lR]) (by simp [go_sem, gr1, lR]) (by simp [go_sem, gr2, lR]) (by simp [go_sem, gr3, lR]) (by simp [go_sem, gr4, lR]) ⟨by rw [HR.out]; rfl, below_put (by omega) (hKK _ (by repeat (first | with_reducible exact KeepsOthers.refl _ | with_reducible refine keeps_in ?_ | with_reducible refine keeps_set ?_ | with_reducible refine keeps_alloc ?_))) (by repeat (first | with_reducible exact hbw | (with_reducible refine below_ovr2 ?_ ?_; rotate_left; · (simp <;> omega)) | (with_reducible refine Below.alloc ?_ ?_ _; rotate_left; · (simp <;> omega)) | (with_reducible refine Below.setCell ?_ ?_ _; rotate_left; · (simp <;> omega))))⟩
        · have h0I : ((N : Int) == 0) = false := by rw [beq_eq_false_iff_ne]; omega
          have hN0 : (0 : Int) < (N : Int) := by omega
          obtain ⟨i, hii⟩ : ∃ i : Nat, (min n 1073741824 - 1) % (N : Int) = (i : Int) := ⟨((min n 1073741824 - 1) % (N : Int)).toNat, by have := Int.emod_nonneg (min n 1073741824 - 1) (show (N : Int) ≠ 0 by omega); omega⟩
          have hil : i < N := by have := Int.emod_lt_of_pos (min n 1073741824 - 1) hN0; omega
          have hilI : (i : Int) < (N : Int) := by omega
          have hi0 : (0 : Int) ≤ (i : Int) := by omega
          obtain ⟨g, rfl, hg, d0, d1⟩ := hpv i (by omega)
          obtain ⟨⟨fx, fy⟩, hxy⟩ : ∃ p, S.getD i (0, 0) = p := ⟨_, rfl⟩
          rw [hxy] at d0 d1
          simp only at d0 d1
          have HR : Hid (searchP L l c t false n = (((fx : Int), (fy : Int), 0, true, -1), true)) := Lib.hid (by rw [HY2.out, if_pos (fun h => h0 (HRn.out.1 h)), hii, Int.toNat_natCast, hxy]; rfl)
          clear HY2 HRn h0 hxy hpv
          rcases (by omega : n ≤ 1073741824 ∨ 1073741824 < n) with hn3 | hn3
          · have hij : (n - 1) % (N : Int) = (i : Int) := by rw [← hii, show min n 1073741824 = n by omega]
            clear hii
            gi_wp2
            have hKK := HK4.out
            refine ⟨by simp, .inl ⟨_, _, rfl, run_takeDeferred (hKK _ (by repeat (first | with_reducible exact KeepsOthers.refl _ | with_reducible refine keeps_in ?_ | with_reducible refine keeps_set ?_ | with_reducible refine keeps_alloc ?_))), ?_⟩⟩
            exact ret5f (a := (fx : Int)) (b := (fy : Int)) (c := 0) (j := true) (t := -1) (ok := true) rfl rfl (hKK _ (by repeat (first | with_reducible exact KeepsOthers.refl _ | with_reducible refine keeps_in ?_ | with_reducible refine keeps_set ?_ | with_reducible refine keeps_alloc ?_))) (by simp [go_sem, gr0, lR]) (by simp [go_sem, gr1, lR]) (by simp [go_sem, gr2, lR]) (by simp [go_sem, gr3, lR]) (by simp [go_sem, gr4, lR]) ⟨by rw [HR.out], below_put (by omega) (hKK _ (by repeat (first | with_reducible exact KeepsOthers.refl _ | with_reducible refine keeps_in ?_ | with_reducible refine keeps_set ?_ | with_reducible refine keeps_alloc ?_))) (by repeat (first | with_reducible exact hbw | (with_reducible refine below_ovr2 ?_ ?_; rotate_left; · (simp <;> omega)) | (with_reducible refine Below.alloc ?_ ?_ _; rotate_left; · (simp <;> omega)) | (with_reducible refine Below.setCell ?_ ?_ _; rotate_left; · (simp <;> omega))))⟩
          · have hij : (1073741823 : Int) % (N : Int) = (i : Int) := by rw [← hii, show min n 1073741824 = 1073741824 by omega]; rfl
            clear hii
            gi_wp2
            have hKK := HK4.out
            refine ⟨by simp, .inl ⟨_, _, rfl, run_takeDeferred (hKK _ (by repeat (first | with_reducible exact KeepsOthers.refl _ | with_reducible refine keeps_in ?_ | with_reducible refine keeps_set ?_ | with_reducible refine keeps_alloc ?_))), ?_⟩⟩
            exact ret5f (a := (fx : Int)) (b := (fy : Int)) (c := 0) (j := true) (t := -1) (ok := true) rfl rfl (hKK _ (by repeat (first | with_reducible exact KeepsOthers.refl _ | with_reducible refine keeps_in ?_ | with_reducible refine keeps_set ?_ | with_reducible refine keeps_alloc ?_))) (by simp [go_sem, gr0, lR]) (by simp [go_sem, gr1, lR]) (by simp [go_sem, gr2, lR]) (by simp [go_sem, gr3, lR]) (by simp [go_sem, gr4, lR]) ⟨by rw [HR.out], below_put (by omega) (hKK _ (by repeat (first | with_reducible exact KeepsOthers.refl _ | with_reducible refine keeps_in ?_ | with_reducible refine keeps_set ?_ | with_reducible refine keeps_alloc ?_))) (by repeat (first | with_reducible exact hbw | (with_reducible refine below_ovr2 ?_ ?_; rotate_left; · (simp <;> omega)) | (with_reducible refine Below.alloc ?_ ?_ _; rotate_left; · (simp <;> omega)) | (with_reducible refine Below.setCell ?_ ?_ _; rotate_left; · (simp <;> omega))))⟩
      | true =>
        have HY2 : Hid (searchP L l c t true n = if allP L t ≠ [] then fndM ((ra.reverse ++ (rb.reverse ++ ro)).getD ((min n 1073741824 - 1) % ((allP L t).length : Int)).toNat (0, 0)) else noMov) := Lib.hid (HY1.out.trans (by simp))
        clear HY1
        gi_wp2_with fail
        gi_at_call 83
        refine (callsIn_wide.2 (prev_any W1.heap.size _ ra W ha.2 (by omega))).mono ?_
        rintro e2 w2 ⟨⟨xv, rfl⟩, hown2, hg2⟩
        have ha2 := ha.turned hown2 hg2
        have hb2 := hb.beside ha q1 hg2
        have ho2 := ho.beside ha q2 hg2
        have k2 := ha.keeps hg2
        have t2 := ha.typ (E := [Ab, Bb, Bo]) hg2
        have hcb2 := hb2.1.cell
        have hs2 := hg2.size
        clear hca hcb hco hown2
        gi_wp2_with fail
        gi_at_call 83
        refine (callsIn_wide.2 (prev_any W1.heap.size _ rb w2 hb2.2 (by omega))).mono ?_
        rintro e3 w3 ⟨⟨xv3, rfl⟩, hown3, hg3⟩
        have ha3 := ha2.beside hb2 q1.symm hg3
        have hb3 := hb2.turned hown3 hg3
        have ho3 := ho2.beside hb2 q3 hg3
        have k3 := hb2.keeps hg3
        have t3 := hb2.typ (E := [Ab, Bb, Bo]) hg3
        have hca3 := ha3.1.cell
        have hcb3 := hb3.1.cell
        have hco3 := ho3.1.cell
        have hfa3 := ha3.1.frozen
        have hfb3 := hb3.1.frozen
        have hs3 := hg3.size
        have lA3 := ha3.1.lt
        have lB3 := hb3.1.lt
        have hneA : ¬ Ab = Bb := by omega
        have hneB : ¬ Bb = Ab := by omega
        have hneC : ¬ Bo = Ab := by omega
        have hneD : ¬ Bo = Bb := by omega
        clear hcb2 hown3
        gi_wp2_with fail
        obtain ⟨W4, hW4⟩ : ∃ W4, (w3.setCell ⟨Ab, 0, none⟩ (.slice ab rb.length cb)).setCell ⟨Bb, 0, none⟩ (.slice aa ra.length ca) = W4 := ⟨_, rfl⟩
        rw [hW4]
        have hsz4 : W4.heap.size = w3.heap.size := by rw [← hW4]; simp
        rw [← hsz4]
        have hB4 : Typ 3 W1.heap.size [Ab, Bb, Bo] W1 W4 := by rw [← hW4]; exact (((hB.trans t2).trans t3).setCell (by simp) _ _).setCell (by simp) _ _
        have hK4 : KeepsOthers W W4 := by rw [← hW4]; exact (((k2.trans k3).trans (KeepsOthers.setCell _ _ _)).trans (KeepsOthers.setCell _ _ _))
        have hA5 : Boxed (w3.setCell ⟨Ab, 0, none⟩ (.slice ab rb.length cb)) Bb 48 _ := hb3.1.other hneB _
        have p1' : PairsAt W4 aa ra.reverse := by
          have h := own_box (own_box ha3.2 ha3.1 (.slice ab rb.length cb)) hA5 (.slice aa ra.length ca)
          rw [hW4] at h
          obtain ⟨_, _, e, hp⟩ := pairs_of_owns (rs := ra.reverse) (by rw [List.length_reverse]; simpa using h)
          simp only [Value.slice.injEq] at e
          obtain ⟨rfl, -, rfl⟩ := e
          exact hp
        have p2' : PairsAt W4 ab rb.reverse := by
          have h := own_box (own_box hb3.2 ha3.1 (.slice ab rb.length cb)) hA5 (.slice aa ra.length ca)
          rw [hW4] at h
          obtain ⟨_, _, e, hp⟩ := pairs_of_owns (rs := rb.reverse) (by rw [List.length_reverse]; simpa using h)
          simp only [Value.slice.injEq] at e
          obtain ⟨rfl, -, rfl⟩ := e
          exact hp
        have p3' : PairsAt W4 ao ro := by
          have h := own_box (own_box ho3.2 ha3.1 (.slice ab rb.length cb)) hA5 (.slice aa ra.length ca)
          rw [hW4] at h
          obtain ⟨_, _, e, hp⟩ := pairs_of_owns h
          cases e
          exact hp
        have hl1 : ra.reverse.length = ra.length := List.length_reverse
        have hl2 : rb.reverse.length = rb.length := List.length_reverse
        obtain ⟨r1, hr1⟩ : ∃ r1, ra.reverse = r1 := ⟨_, rfl⟩
        obtain ⟨r2, hr2⟩ : ∃ r2, rb.reverse = r2 := ⟨_, rfl⟩
        rw [hr1] at HY2 hl1 p1'
        rw [hr2] at HY2 hl2 p2'
        rw [← hl1, ← hl2]
        obtain ⟨a1, rfl⟩ : ∃ a1, a1 = aa := ⟨_, rfl⟩
        obtain ⟨a2, rfl⟩ : ∃ a2, a2 = ab := ⟨_, rfl⟩
        obtain ⟨c1, rfl⟩ : ∃ c1, c1 = ca := ⟨_, rfl⟩
        obtain ⟨c2, rfl⟩ : ∃ c2, c2 = cb := ⟨_, rfl⟩
        have hsum : r1.length + r2.length + ro.length = (allP L t).length := by omega
        clear hsz4 hr1 hr2 hl1 hl2 hA5 hW4 hca3 hcb3 hco3 hfa3 hfb3 ha hb ho ha2 hb2 ho2 ha3 hb3 ho3 hpa hpb hpo q1 q2 q3 hlen hB t2 t3 k2 k3 hg2 hg3 lA3 lB3
        have HK4 := Lib.hid (fun (W' : World) (h : KeepsOthers W4 W') => HKK.out W' (hK4.trans h))
        have hs4 := hB4.size
        have gr0 : W4.cell? ⟨w.heap.size + 1, 0, none⟩ = some (.int .i64 0) := hB4.cell (by omega) (by simp <;> omega) cr0
        have gr1 : W4.cell? ⟨w.heap.size + 1, 1, none⟩ = some (.int .i64 0) := hB4.cell (by omega) (by simp <;> omega) cr1
        have gr2 : W4.cell? ⟨w.heap.size + 1, 2, none⟩ = some (.int .i64 0) := hB4.cell (by omega) (by simp <;> omega) cr2
        have gr3 : W4.cell? ⟨w.heap.size + 1, 3, none⟩ = some (.bool false) := hB4.cell (by omega) (by simp <;> omega) cr3
        have gr4 : W4.cell? ⟨w.heap.size + 1, 4, none⟩ = some (.int .i64 0) := hB4.cell (by omega) (by simp <;> omega) cr4
        have gf0 : W4.frozen? ⟨w.heap.size + 1, 0, none⟩ = false := (hB4.frozen (by omega) (by omega) (by simp <;> omega)).trans cf0
        have gf1 : W4.frozen? ⟨w.heap.size + 1, 1, none⟩ = false := (hB4.frozen (by omega) (by omega) (by simp <;> omega)).trans cf1
        have gf2 : W4.frozen? ⟨w.heap.size + 1, 2, none⟩ = false := (hB4.frozen (by omega) (by omega) (by simp <;> omega)).trans cf2
        have gf3 : W4.frozen? ⟨w.heap.size + 1, 3, none⟩ = false := (hB4.frozen (by omega) (by omega) (by simp <;> omega)).trans cf3
        have gf4 : W4.frozen? ⟨w.heap.size + 1, 4, none⟩ = false := (hB4.frozen (by omega) (by omega) (by simp <;> omega)).trans cf4
        have hbw : Below w.heap.size w W4 := hB4.below hbel (by omega) (by omega) (by simp <;> omega)
        have lR : w.heap.size + 1 < W4.heap.size := by omega
        clear HKK hK4
        gi_at_call 84
        refine (callsIn_wide.2 (cat3_any W4 r1 r2 ro a1 a2 ao c1 c2 co _ rfl p1' p2' p3' (by omega))).mono ?_
        rintro e1 w3 ⟨av, cv, rfl, hpv, hbl⟩
        obtain ⟨y3, rfl⟩ := ovr_of_below hbl
        clear hbl p1' p2' p3'
        obtain ⟨S, hS⟩ : ∃ S, r1 ++ (r2 ++ ro) = S := ⟨_, rfl⟩
        have hSl : S.length = (allP L t).length := by rw [← hS]; simp only [List.length_append]; omega
        rw [hS] at hpv HY2
        try rw [hS]
        obtain ⟨N, hN⟩ : ∃ N, (allP L t).length = N := ⟨_, rfl⟩
        rw [hN] at HY2 HRn hSl hRl
        clear hS hsum hN hB4
        by_cases h0 : N = 0
        · have h0I : ((N : Int) == 0) = true := by rw [beq_iff_eq]; omega
          have HR : Hid (searchP L l c t true n = noMov) := Lib.hid (by rw [HY2.out, if_neg (fun h => h (HRn.out.2 h0))])
          clear HY2 HRn h0
          gi_wp2
          have hKK := HK4.out
          refine ⟨by simp, .inl ⟨_, _, rfl, run_takeDeferred (hKK _ (by repeat (first | with_reducible exact KeepsOthers.refl _ | with_reducible refine keeps_in ?_ | with_reducible refine keeps_set ?_ | with_reducible refine keeps_alloc ?_))), ?_⟩⟩
          exact ret5f (a := 0) (b := 0) (c := 0) (j := false) (t := 0) (ok := false) rfl rfl (hKK _ (by repeat (first | with_reducible exact KeepsOthers.refl _ | with_reducible refine keeps_in ?_ | with_reducible refine keeps_set ?_ | with_reducible refine keeps_alloc ?_))) (by simp [go_sem, gr0, lR]) (by simp [go_sem, gr1, lR]) (by simp [go_sem, gr2, lR]) (by simp [go_sem, gr3, lR]) (by simp [go_sem, gr4, lR]) ⟨by rw [HR.out]; rfl, below_put (by omega) (hKK _ (by repeat (first | with_reducible exact KeepsOthers.refl _ | with_reducible refine keeps_in ?_ | with_reducible refine keeps_set ?_ | with_reducible refine keeps_alloc ?_))) (by repeat (first | with_reducible exact hbw | (with_reducible refine below_ovr2 ?_ ?_; rotate_left; · (simp <;> omega)) | (with_reducible refine Below.alloc ?_ ?_ _; rotate_left; · (simp <;> omega)) | (with_reducible refine Below.setCell ?_ ?_ _; rotate_left; · (simp <;> omega))))⟩
        · have h0I : ((N : Int) == 0) = false := by rw [beq_eq_false_iff_ne]; omega
          have hN0 : (0 : Int) < (N : Int) := by omega
          obtain ⟨i, hii⟩ : ∃ i : Nat, (min n 1073741824 - 1) % (N : Int) = (i : Int) := ⟨((min n 1073741824 - 1) % (N : Int)).toNat, by have := Int.emod_nonneg (min n 1073741824 - 1) (show (N : Int) ≠ 0 by omega); omega⟩
          have hil : i < N := by have := Int.emod_lt_of_pos (min n 1073741824 - 1) hN0; omega
          have hilI : (i : Int) < (N : Int) := by omega
          have hi0 : (0 : Int) ≤ (i : Int) := by omega
          obtain ⟨g, rfl, hg, d0, d1⟩ := hpv i (by omega)
          obtain ⟨⟨fx, fy⟩, hxy⟩ : ∃ p, S.getD i (0, 0) = p := ⟨_, rfl⟩
          rw [hxy] at d0 d1
          simp only at d0 d1
          have HR : Hid (searchP L l c t true n = (((fx : Int), (fy : Int), 0, true, -1), true)) := Lib.hid (by rw [HY2.out, if_pos (fun h => h0 (HRn.out.1 h)), hii, Int.toNat_natCast, hxy]; rfl)
          clear HY2 HRn h0 hxy hpv
          rcases (by omega : n ≤ 1073741824 ∨ 1073741824 < n) with hn3 | hn3
          · have hij : (n - 1) % (N : Int) = (i : Int) := by rw [← hii, show min n 1073741824 = n by omega]
            clear hii
            gi_wp2
            have hKK := HK4.out
            refine ⟨by simp, .inl ⟨_, _, rfl, run_takeDeferred (hKK _ (by repeat (first | with_reducible exact KeepsOthers.refl _ | with_reducible refine keeps_in ?_ | with_reducible refine keeps_set ?_ | with_reducible refine keeps_alloc ?_))), ?_⟩⟩
            exact ret5f (a := (fx : Int)) (b := (fy : Int)) (c := 0) (j := true) (t := -1) (ok := true) rfl rfl (hKK _ (by repeat (first | with_reducible exact KeepsOthers.refl _ | with_reducible refine keeps_in ?_ | with_reducible refine keeps_set ?_ | with_reducible refine keeps_alloc ?_))) (by simp [go_sem, gr0, lR]) (by simp [go_sem, gr1, lR]) (by simp [go_sem, gr2, lR]) (by simp [go_sem, gr3, lR]) (by simp [go_sem, gr4, lR]) ⟨by rw [HR.out], below_put (by omega) (hKK _ (by repeat (first | with_reducible exact KeepsOthers.refl _ | with_reducible refine keeps_in ?_ | with_reducible refine keeps_set ?_ | with_reducible refine keeps_alloc ?_))) (by repeat (first | with_reducible exact hbw | (with_reducible refine below_ovr2 ?_ ?_; rotate_left; · (simp <;> omega)) | (with_reducible refine Below.alloc ?_ ?_ _; rotate_left; · (simp <;> omega)) | (with_reducible refine Below.setCell ?_ ?_ _; rotate_left; · (simp <;> omega))))⟩
          · have hij : (1073741823 : Int) % (N : Int) = (i : Int) := by rw [← hii, show min n 1073741824 = 1073741824 by omega]; rfl
            clear hii
            gi_wp2
            have hKK := HK4.out
            refine ⟨by simp, .inl ⟨_, _, rfl, run_takeDeferred (hKK _ (by repeat (first | with_reducible exact KeepsOthers.refl _ | with_reducible refine keeps_in ?_ | with_reducible refine keeps_set ?_ | with_reducible refine keeps_alloc ?_))), ?_⟩⟩
            exact ret5f (a := (fx : Int)) (b := (fy : Int)) (c := 0) (j := true) (t := -1) (ok := true) rfl rfl (hKK _ (by repeat (first | with_reducible exact KeepsOthers.refl _ | with_reducible refine keeps_in ?_ | with_reducible refine keeps_set ?_ | with_reducible refine keeps_alloc ?_))) (by simp [go_sem, gr0, lR]) (by simp [go_sem, gr1, lR]) (by simp [go_sem, gr2, lR]) (by simp [go_sem, gr3, lR]) (by simp [go_sem, gr4, lR]) ⟨by rw [HR.out], below_put (by omega) (hKK _ (by repeat (first | with_reducible exact KeepsOthers.refl _ | with_reducible refine keeps_in ?_ | with_reducible refine keeps_set ?_ | with_reducible refine keeps_alloc ?_))) (by repeat (first | with_reducible exact hbw | (with_reducible refine below_ovr2 ?_ ?_; rotate_left; · (simp <;> omega)) | (with_reducible refine Below.alloc ?_ ?_ _; rotate_left; · (simp <;> omega)) | (with_reducible refine Below.setCell ?_ ?_ _; rotate_left; · (simp <;> omega))))⟩
    -- to here
  · have HR := Lib.hid (show searchP L pl pc t back n = noMov by rw [searchP, if_neg (fun h' => h ⟨h'.1, h'.2.1⟩)])
    by_cases h1 : n < 1
    · clear h
      go_enter Try.func43, Try.ntmps43
      go_wp2
      refine bodyPost_ret (v := movV noMov) (by simp [results, Try.results43, go_sem, noMov]) rfl ⟨by rw [HR.out], by (repeat (first | with_reducible exact Below.refl _ _ | (with_reducible refine Below.setCell ?_ ?_ _; rotate_left; · (first | exact Nat.le_refl _ | assumption | omega | (simp; done) | (simp; omega))) | (with_reducible refine Below.alloc ?_ ?_ _; rotate_left; · (first | exact Nat.le_refl _ | assumption | omega | (simp; done) | (simp; omega))) | with_reducible refine below_ovr_of ?_ | with_reducible refine drew_below ?_ _ | with_reducible refine Below.drew ?_ | with_reducible assumption))⟩
    · have HP : Hid (plcB L pl pc = false) := Lib.hid (by rw [Bool.eq_false_iff]; intro e; exact h ⟨e, by omega⟩)
      clear h
      go_enter Try.func43, Try.ntmps43
      go_wp2_with (go_at_call 81; refine (place_at _ _ L _ _ _ (by (repeat (first | assumption | refine LinesAt.ovr ?_ _ | refine LinesAt.alloc ?_ _ | refine LinesAt.drewN ?_ _ | refine LinesAt.drew ?_))) HP).mono ?_; rintro e w1 ⟨rfl, hbl⟩; obtain ⟨x, rfl⟩ := ovr_of_below hbl; clear hbl)
      refine bodyPost_ret (v := movV noMov) (by simp [results, Try.results43, go_sem, noMov]) rfl ⟨by rw [HR.out], by (repeat (first | with_reducible exact Below.refl _ _ | (with_reducible refine Below.setCell ?_ ?_ _; rotate_left; · (first | exact Nat.le_refl _ | assumption | omega | (simp; done) | (simp; omega))) | (with_reducible refine Below.alloc ?_ ?_ _; rotate_left; · (first | exact Nat.le_refl _ | assumption | omega | (simp; done) | (simp; omega))) | with_reducible refine below_ovr_of ?_ | with_reducible refine drew_below ?_ _ | with_reducible refine Below.drew ?_ | with_reducible assumption))⟩
end Go.Proofs.Ytnaceobbbfbhhaa
