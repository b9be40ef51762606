/- The contracts of paraobj.Blocks and blocks. Conditions: none beyond what each says. -/
import Derived.Test.YtnaceobbbfbhhaaBlk
import Derived.Test.YtnaceobbbfbhhaaInFP
import Derived.Test.YtnaceobbbfbhhaaAppNew
import Derived.Test.YtnaceobbbfbhhaaBut
import Derived.Test.YtnaceobbbfbhhaaByte
import Derived.Test.YtnaceobbbfbhhaaSent3
namespace Go.Proofs.Ytnaceobbbfbhhaa
open Go.RowKit Go.Shelf

attribute [local go_sem] Oper.semAt_some
theorem pblk_any (a : Option Addr) (cap : Nat) (L : List ByteArray) (w : World) : Calls Try.prog 65 #[.slice a L.length cap] w fun e w' =>
    e = .returned (.func (.func 103) #[] #[.pointer (some ⟨w.heap.size, 0, none⟩)]) ∧ w.alloc (.cells #[.slice a L.length cap] 22) = w' := by
  go_enter Try.func65, Try.ntmps65
  go_wp2
  go_ret
  exact ⟨rfl, rfl⟩
theorem blk_stopsK (Kp : World → World → Prop) (Bl : Nat) (a : Option Addr) (cap : Nat) (L : List ByteArray) (W : World) (hl : L.length ≤ 100000) (hBl : W.cell? ⟨Bl, 0, none⟩ = some (.slice a L.length cap)) (hL : LinesAt W a L)
    (hK1 : ∀ X Y, Kp X Y → X.cell? ⟨Bl, 0, none⟩ = some (.slice a L.length cap) → LinesAt X a L → Y.cell? ⟨Bl, 0, none⟩ = some (.slice a L.length cap) ∧ LinesAt Y a L) :
    SeqStopsK Fence.wide 8 Try.prog 103 #[.pointer (some ⟨Bl, 0, none⟩)] (fun x : Ivl L.length => #[Value.int .i64 (x.1.1 : Int), Value.int .i64 (x.1.2 : Int)]) Kp
      (fun ys => vals ys = blkP L) (fun pre => vals pre <+: blkP L) 100000 W := fun l J Jx X hX _ _ hY h0 =>
  blk1_in 8 (by omega) l Bl a cap L Kp hl hK1 J Jx (fun pre x A h hl => hY pre x A h (by omega)) X
    ((hX.cell (p := ⟨Bl, 0, none⟩) (World.block_lt_of_cell? _ _ hBl)).trans hBl) (hL.below hX (Nat.le_refl _)) h0
/-- Where blocks begin, and the end. -/
def begN (R : List (Nat × Nat)) : List Nat := 0 :: R.map Prod.snd
theorem begN_snoc (R : List (Nat × Nat)) (p : Nat × Nat) : begN (R ++ [p]) = begN R ++ [p.2] := by simp [begN]
theorem begN_len (R : List (Nat × Nat)) : (begN R).length = R.length + 1 := by simp [begN]
theorem boxed_new2 (W : World) (t : TypeId) (v : Value) {n : Nat} (h : n = W.heap.size) : Boxed (W.alloc (.cells #[v] t)) n t v := by subst h; exact Boxed.new W t v
theorem heap_at_new (w : World) (o : Obj) {n : Nat} (h : n = w.heap.size) : (w.alloc o).heap[n]? = some o := by subst h; exact World.alloc_heap_new w o
theorem cell_one_new' {w : World} {n : Nat} (h : n = w.heap.size) (a : Value) (t : TypeId) : ∀ j u, [a][j]? = some u → (w.alloc (.cells #[a] t)).cell? ((⟨n, 0, none⟩ : Addr).add j) = some u := by
  intro j u hj
  subst h
  rw [addr_add]
  match j, hj with
  | 0, hj => simp at hj; subst hj; simp [go_sem]
/-- One more in a row of a box's slice; another box beside it. -/
theorem row_step {W2 w1 : World} {n A I : Nat} {t ti e : TypeId} {size k : Nat} {v v' u : Value} {ys : List Value} {r : Option Nat} {tmp : Obj} (hgrow : (W2.alloc tmp).grownBy w1 r) (hr : ∀ j, r = some j → n ≤ j ∧ ∃ cs q, (W2.alloc tmp).heap[j]? = some (.cells cs e q))
    (hown' : w1.ownsRow n e size v' k ys) (hA : Boxed W2 A t v) (hI : Boxed W2 I ti u) (hAn : A < n) (hIn : I < n) (hne : I ≠ A) (hn : n ≤ W2.heap.size) (E : List Nat) (hE : A ∈ E) :
    Boxed w1 A t v ∧ Boxed (w1.setCell ⟨A, 0, none⟩ v') A t v' ∧ (w1.setCell ⟨A, 0, none⟩ v').ownsRow n e size v' k ys ∧ Boxed (w1.setCell ⟨A, 0, none⟩ v') I ti u ∧ KeepsOthers W2 (w1.setCell ⟨A, 0, none⟩ v') ∧ But n E W2 (w1.setCell ⟨A, 0, none⟩ v') := by
  have hA1 : Boxed w1 A t v := (hA.alloc tmp).kept hgrow (fun e' => by have := (hr A e'.symm).1; omega)
  have hI1 : Boxed w1 I ti u := (hI.alloc tmp).kept hgrow (fun e' => by have := (hr I e'.symm).1; omega)
  refine ⟨hA1, hA1.set v', hown'.kept (grownBy_setCell' w1 A v') (.inr (fun e' => by have := (hown'.lt _ e').1; omega)), hI1.other hne v', ?_, ?_⟩
  · refine ((KeepsOthers.alloc W2 tmp).trans (KeepsOthers.of_grownBy hgrow fun j o ej hj => ?_)).trans (KeepsOthers.setCell _ _ _)
    obtain ⟨_, cs, q, hc⟩ := hr j ej
    rw [hc] at hj; cases hj; rfl
  · exact (((But.refl n E W2).alloc hn tmp).grown (by simp; omega) hgrow (fun j e' => (hr j e').1)).setCell (.inl hE) 0 v'
theorem row_own {W2 : World} {n : Nat} {e : TypeId} {size k : Nat} {v : Value} {xs : List Value} (h : W2.ownsRow n e size v k xs) (tmp : Obj) : ∀ j, v.ownBlock = some j → n ≤ j ∧ ∃ cs q, (W2.alloc tmp).heap[j]? = some (.cells cs e q) := fun j ej => by
  refine ⟨(h.lt j ej).1, ?_⟩
  rcases (h.alloc tmp).2 with ⟨rfl, _⟩ | ⟨g, cap, cur, rfl, _, hgb, _⟩
  · simp [Value.ownBlock] at ej
  · obtain rfl : g = j := by simpa [Value.ownBlock] using ej
    exact ⟨_, _, hgb⟩
set_option maxRecDepth 100000 in
set_option maxHeartbeats 4000000 in
theorem pblocks_no (a : Option Addr) (cap : Nat) (L : List ByteArray) (pl pc n : Int) (w : World) (hL : LinesAt w a L) (h : ¬ (1 ≤ n ∧ byteB L pl pc = true)) :
    Calls Try.prog 104 #[.slice a L.length cap, .agg #[.int .i64 pl, .int .i64 pc], .int .i64 n] w fun e w' => e = .returned (.tuple #[.slice none 0 0, .int .i64 0, .bool false]) ∧ Below w.heap.size w w' := by
  have hn := hL.2.1
  by_cases h1 : 1 ≤ n
  · have h1d : decide (n < 1) = false := decide_eq_false (by omega)
    have h1I : ¬ n < 1 := by omega
    have hb : byteB L pl pc = false := by
      cases hb : byteB L pl pc with
      | false => rfl
      | true => exact absurd ⟨h1, hb⟩ h
    have HB := Lib.hid hb
    clear h hb
    go_enter Try.func104, Try.ntmps104
    go_wp2_with (go_at_call 109; refine (byte_any _ _ L _ _ _ (by (repeat (first | assumption | refine LinesAt.ovr ?_ _ | refine LinesAt.alloc ?_ _ | refine LinesAt.drewN ?_ _ | refine LinesAt.drew ?_)))).mono ?_; rw [HB.out]; rintro e w1 ⟨rfl, hbl⟩; obtain ⟨x, rfl⟩ := ovr_of_below hbl; clear hbl)
    go_ret3
    exact ⟨rfl, by (repeat (first | with_reducible exact Below.refl _ _ | (with_reducible refine Below.setCell ?_ ?_ _; rotate_left; · (first | exact Nat.le_refl _ | assumption | omega | (simp; done) | (simp; omega))) | (with_reducible refine Below.alloc ?_ ?_ _; rotate_left; · (first | exact Nat.le_refl _ | assumption | omega | (simp; done) | (simp; omega))) | with_reducible refine below_ovr_of ?_ | with_reducible refine drew_below ?_ _ | with_reducible refine Below.drew ?_ | with_reducible assumption))⟩
  · have h1' : n < 1 := by omega
    clear h h1
    go_enter Try.func104, Try.ntmps104
    go_wp2_with (go_at_call 109; refine (byte_any _ _ L _ _ _ (by (repeat (first | assumption | refine LinesAt.ovr ?_ _ | refine LinesAt.alloc ?_ _ | refine LinesAt.drewN ?_ _ | refine LinesAt.drew ?_)))).mono ?_; rintro e w1 ⟨rfl, hbl⟩; obtain ⟨x, rfl⟩ := ovr_of_below hbl; clear hbl)
    go_ret3
    exact ⟨rfl, by (repeat (first | with_reducible exact Below.refl _ _ | (with_reducible refine Below.setCell ?_ ?_ _; rotate_left; · (first | exact Nat.le_refl _ | assumption | omega | (simp; done) | (simp; omega))) | (with_reducible refine Below.alloc ?_ ?_ _; rotate_left; · (first | exact Nat.le_refl _ | assumption | omega | (simp; done) | (simp; omega))) | with_reducible refine below_ovr_of ?_ | with_reducible refine drew_below ?_ _ | with_reducible refine Below.drew ?_ | with_reducible assumption))⟩
set_option maxRecDepth 100000 in
set_option maxHeartbeats 8000000 in
theorem pblocks_yes (a : Option Addr) (cap : Nat) (L : List ByteArray) (l c : Nat) (n : Int) (w : World) (hL : LinesAt w a L) (hl4 : L.length ≤ 100000) (hl : l < L.length) (hb : byteB L l c = true) (hn1 : 1 ≤ n) :
    Calls Try.prog 104 #[.slice a L.length cap, .agg #[.int .i64 l, .int .i64 c], .int .i64 n] w fun e w' =>
      ∃ v, e = .returned (.tuple #[v, .int .i64 (inF l (blkP L)), .bool true]) ∧ w'.ownsRow w.heap.size 3 1 v (begN (blkP L)).length (cellsN (begN (blkP L))) ∧ Below w.heap.size w w' := by
  have hn := hL.2.1
  obtain ⟨i0, hi, hz0, hz1, hz2⟩ := info_parts infoInt
  obtain ⟨b, off, s, rfl, hbb, _, _, _⟩ := line_facts' hL hl
  have HB := Lib.hid hb
  have hn1d : decide (n < 1) = false := decide_eq_false (by omega)
  have hn1I : ¬ n < 1 := by omega
  have hne : (blkP L) ≠ [] := by
    intro e
    obtain ⟨k, hk, _⟩ := chain_find (blkP_chain L) (Nat.zero_le l) (by rw [blkS_size]; exact hl)
    rw [e] at hk
    simp at hk
  have HNE := Lib.hid hne
  clear hb hne
  refine (callsIn_wide (n := 9)).1 ?_
  refine callsIn_of_wp_marks Try.func104 rfl trivial ?_ rfl
  simp only [Try.ntmps104, List.size_toArray, List.length_cons, List.length_nil, Nat.reduceAdd, Nat.reduceSub, Array.replicate_succ, Array.replicate_zero, List.push_toArray, List.append_toArray, List.nil_append, List.cons_append]
  gi_wp2_with (first
    | (gi_at_call 109; refine (callsIn_wide.2 (byte_any _ _ L _ _ _ (by (repeat (first | assumption | refine LinesAt.ovr ?_ _ | refine LinesAt.alloc ?_ _ | refine LinesAt.drewN ?_ _ | refine LinesAt.drew ?_))))).mono ?_; rw [HB.out]; rintro e w1 ⟨rfl, hbl⟩; obtain ⟨x1, rfl⟩ := ovr_of_below hbl; clear hbl)
    | (gi_at_call 65; refine (callsIn_wide.2 (pblk_any _ _ L _)).mono ?_; rintro e w1 ⟨rfl, rfl⟩))
  obtain ⟨g0, hg0⟩ : ∃ g0, w.heap.size + 1 + x1.heap.size = g0 := ⟨_, rfl⟩
  rw [hg0]
  refine name_worldIn ?_
  intro W1 hW1
  have c0 : W1.cell? ⟨w.heap.size, 0, none⟩ = some (.int .i64 l) := by rw [hW1]; simp [go_sem]
  have c1 : W1.cell? ⟨w.heap.size, 1, none⟩ = some (.int .i64 c) := by rw [hW1]; simp [go_sem]
  have bA : Boxed W1 (g0 + 1) 57 (.slice (some ⟨g0, 0, none⟩) 1 1) := by rw [hW1]; exact ((boxed_new2 _ _ _ (by rw [← hg0]; simp)).alloc _).alloc _
  have bI : Boxed W1 (g0 + 1 + 1) 3 (.int .i64 0) := by rw [hW1]; exact (boxed_new2 _ _ _ (by rw [← hg0]; simp)).alloc _
  have hBl : W1.cell? ⟨g0 + 1 + 1 + 1, 0, none⟩ = some (.slice (some ⟨b, off, none⟩) L.length cap) := by rw [hW1, ← hg0]; simp [go_sem]
  have hg1 : W1.heap[g0]? = some (.cells #[.int .i64 0] 3 (0, 0)) := by
    rw [hW1, Below.heap_alloc _ _ _ (by rw [← hg0]; simp <;> omega), Below.heap_alloc _ _ _ (by rw [← hg0]; simp <;> omega), Below.heap_alloc _ _ _ (by rw [← hg0]; simp <;> omega)]
    exact heap_at_new _ _ (by rw [← hg0]; simp)
  have hbel : Below w.heap.size w W1 := by rw [hW1]; (repeat (first | with_reducible exact Below.refl _ _ | (with_reducible refine Below.setCell ?_ ?_ _; rotate_left; · (first | exact Nat.le_refl _ | assumption | omega | (simp; done) | (simp; omega))) | (with_reducible refine Below.alloc ?_ ?_ _; rotate_left; · (first | exact Nat.le_refl _ | assumption | omega | (simp; done) | (simp; omega))) | with_reducible refine below_ovr_of ?_ | with_reducible refine drew_below ?_ _ | with_reducible refine Below.drew ?_ | with_reducible assumption))
  have hsz : g0 + 1 + 1 + 1 < W1.heap.size := by rw [hW1, ← hg0]; simp
  have hg0w : w.heap.size < g0 := by omega
  have hLW := hL.below hbel (Nat.le_refl _)
  have hbelS := hbel.size
  clear hW1 hg0
  have hJ0 : OwnFrom W1.heap.size (fun (pre : List (Ivl L.length)) W => (∃ v, Boxed W (g0 + 1) 57 v ∧ ((pre = [] ∧ v = .slice (some ⟨g0, 0, none⟩) 1 1) ∨ W.ownsRow W1.heap.size 3 1 v (begN (vals pre)).length (cellsN (begN (vals pre)))))) := fun s X Y row ⟨v, hv, hd⟩ hg hr => by
    rcases hd with hd | hd
    · exact ⟨v, Own.from (boxed_own (g0 + 1) 57 (fun _ : Unit => v)) _ () X Y row hv hg hr, .inl hd⟩
    · obtain ⟨v', h1, h2, _⟩ := Own.from (holdsRow_own W1.heap.size (g0 + 1) 57 3 1 (fun s : List (Ivl L.length) => (begN (vals s)).length) (fun s => cellsN (begN (vals s))) (fun _ _ => True)) _ s X Y row ⟨v, hv, hd, trivial⟩ hg hr
      exact ⟨v', h1, .inr h2⟩
  refine wpIn_rangeFunc_ownG rfl (by omega) (gf := 103) (lb := #[.pointer (some ⟨g0 + 1 + 1 + 1, 0, none⟩)]) rfl trivial (enters_of Try.func103 (by kernel_rfl) rfl)
    (blk_stopsK (But W1.heap.size [g0 + 1, g0 + 1 + 1]) (g0 + 1 + 1 + 1) (some ⟨b, off, none⟩) cap L W1 hl4 hBl hLW (fun X Y h hc hl => ⟨(h.cell (by omega) (by simp <;> omega)).trans hc, ⟨fun i hi => by
      obtain ⟨b', off', e, hlt, hcc⟩ := hl.1 i hi
      cases e
      exact ⟨b, off, rfl, Nat.lt_of_lt_of_le hlt h.size, (h.cell (by omega) (by simp; omega)).trans hcc⟩, hl.2⟩⟩))
    But.trans (butK_b (Nat.le_refl _)) (Below.refl _ _) (fun _ => rfl)
    (fun (pre : List (Ivl L.length)) W => ((∃ v, Boxed W (g0 + 1) 57 v ∧ ((pre = [] ∧ v = .slice (some ⟨g0, 0, none⟩) 1 1) ∨ W.ownsRow W1.heap.size 3 1 v (begN (vals pre)).length (cellsN (begN (vals pre))))) ∧ Boxed W (g0 + 1 + 1) 3 (.int .i64 (inF l (vals pre)))) ∧ But W1.heap.size [g0 + 1, g0 + 1 + 1] W1 W)
    (fun _ _ _ => False)
    (OwnFrom.and (OwnFrom.and hJ0 (Own.from (boxed_own (g0 + 1 + 1) 3 (fun pre : List (Ivl L.length) => Value.int .i64 (inF l (vals pre)))) _)) (butFrom (Nat.le_refl _) (Nat.le_refl _)))
    (fun _ _ _ _ _ hs _ _ => hs)
    ⟨⟨⟨_, bA, .inl ⟨rfl, rfl⟩⟩, bI⟩, But.refl _ _ _⟩
    (fun x => { tmps := #[.slice (some ⟨b, off, none⟩) L.length cap, .agg #[.int .i64 l, .int .i64 c], .int .i64 n, undef, .pointer (some ⟨w.heap.size, 0, none⟩), undef, .slice none 0 0, .int .i64 0, .bool false, .pointer (some ⟨g0 + 1, 0, none⟩), .pointer (some ⟨g0 + 1 + 1, 0, none⟩), .int .i64 (x.1.1 : Int), .int .i64 (x.1.2 : Int), .int .i64 n, .bool false, .bool false, .slice (some ⟨b, off, none⟩) L.length cap, .agg #[.int .i64 l, .int .i64 c], .bool true, .bool false, .bool false, .slice (some ⟨g0, 0, none⟩) 1 1, .slice (some ⟨b, off, none⟩) L.length cap, .func (.func 103) #[] #[.pointer (some ⟨g0 + 1 + 1 + 1, 0, none⟩)], .int .i64 (x.1.1 : Int), .int .i64 (x.1.2 : Int), undef, undef, undef, undef, undef, undef, undef, undef, undef, undef, undef, undef, undef], defers := [] }) ?assign ?body ?done ?stop
  case assign =>
    intro l x W K hK
    gi_wp2
    exact hK
  case body =>
    rintro l' pre x W ⟨⟨⟨v, hv, hd⟩, hI⟩, hB⟩ hlt
    have g0' : W.cell? ⟨w.heap.size, 0, none⟩ = some (.int .i64 l) := (hB.cell (by omega) (by simp; omega)).trans c0
    have g1' : W.cell? ⟨w.heap.size, 1, none⟩ = some (.int .i64 c) := (hB.cell (by omega) (by simp; omega)).trans c1
    have hgW : W.heap[g0]? = some (.cells #[.int .i64 0] 3 (0, 0)) := (hB.block g0 (by omega) (by simp <;> omega)).trans hg1
    have hvc := hv.cell
    have hvf := hv.frozen
    have hic := hI.cell
    have hif := hI.frozen
    have hBs := hB.size
    have hBEG : begN (vals (pre ++ [x])) = begN (vals pre) ++ [x.1.2] := by rw [vals, List.map_append]; exact begN_snoc _ _
    have HBEG := Lib.hid hBEG
    have HLEN : Hid ((begN (vals (pre ++ [x]))).length = (begN (vals pre)).length + 1) := Lib.hid (by rw [hBEG]; simp)
    have HBL : Hid ((begN (vals pre)).length = pre.length + 1) := Lib.hid (by rw [begN_len]; simp)
    have HINF : Hid (inF l (vals (pre ++ [x])) = if x.1.1 ≤ l then (vals pre).length else inF l (vals pre)) := Lib.hid (by rw [vals, List.map_append]; exact inF_snoc _ _ _)
    have HVL : Hid ((vals pre).length = pre.length) := Lib.hid (List.length_map _)
    have hpl : pre.length ≤ 100000 := by omega
    clear hBEG hlt
    rcases hd with ⟨hpre, rfl⟩ | hrow
    · have HPN : Hid (begN (vals pre) = [0]) := Lib.hid (by rw [hpre]; rfl)
      have HPV : Hid (vals pre = []) := Lib.hid (by rw [hpre]; rfl)
      clear hpre
      by_cases hxc : x.1.1 ≤ l
      · have hxcI : (x.1.1 : Int) ≤ (l : Int) := by omega
        obtain ⟨W2, hW2⟩ : ∃ W2, W.setCell ⟨g0 + 1 + 1, 0, none⟩ (.int .i64 0) = W2 := ⟨_, rfl⟩
        have hv2 : Boxed W2 (g0 + 1) 57 (.slice (some ⟨g0, 0, none⟩) 1 1) := by rw [← hW2]; exact hv.other (by omega) _
        have hi2 : Boxed W2 (g0 + 1 + 1) 3 (.int .i64 0) := by rw [← hW2]; exact hI.set _
        have hk2 : KeepsOthers W W2 := by rw [← hW2]; exact KeepsOthers.setCell _ _ _
        have hB2 : But W1.heap.size [g0 + 1, g0 + 1 + 1] W W2 := by rw [← hW2]; exact (But.refl _ _ W).setCell (.inl (by simp)) 0 _
        have hs2 : W1.heap.size ≤ W2.heap.size := by have := hB2.size; omega
        have hg2 : W2.heap[g0]? = some (.cells #[.int .i64 0] 3 (0, 0)) := (hB2.block g0 (by omega) (by simp <;> omega)).trans hgW
        have HIN : Hid (inF l (vals (pre ++ [x])) = 0) := Lib.hid (by rw [HINF.out, if_pos hxc, HPV.out]; rfl)
        have hvc2 := hv2.cell
        have hlt2 : g0 < W2.heap.size := by omega
        gi_wp2_with (gi_at_builtin; refine wpListIn_append_new _ rfl _ _ 57 rfl W1.heap.size 3 i0 (.int .i64 0) 1 8 Try.underlying57 hi hz0 hz1 hz2 rfl g0 1 [.int .i64 0] rfl (by rw [Below.heap_alloc _ _ _ (by omega)]; exact hg2) rfl ⟨W2.heap.size, 0, none⟩ 1 1 [.int .i64 (x.1.2 : Int)] rfl rfl (cell_one_new' rfl _ _) (by decide) (by unfold maxLen; omega) (by omega) (by simp; omega) ?_; intro v' w1 hown' hgrow; obtain ⟨g', cap', rfl⟩ := ownsRow_succ hown'; obtain ⟨q1, q2, q3, q4, q5, q6⟩ := row_step hgrow (fun j e => by cases e) hown' hv2 hi2 (by omega) (by omega) (by omega) hs2 [g0 + 1, g0 + 1 + 1] (by simp); have hc1 := q1.cell; have hf1 := q1.frozen)
        exact ⟨(hk2.trans q5).from _, hB2.trans q6, ⟨⟨_, q2, .inr (by rw [HLEN.out, HBEG.out]; rw [HPN.out]; simpa using q3)⟩, by rw [HIN.out]; exact q4⟩, (hB.trans hB2).trans q6⟩
      · have hxcI : ¬ (x.1.1 : Int) ≤ (l : Int) := by omega
        have hxcN : ¬ x.1.1 ≤ l := hxc
        obtain ⟨W2, hW2⟩ : ∃ W2, W = W2 := ⟨_, rfl⟩
        subst hW2
        have hv2 := hv
        have hi2 := hI
        have hk2 : KeepsOthers W W := KeepsOthers.refl _
        have hB2 : But W1.heap.size [g0 + 1, g0 + 1 + 1] W W := But.refl _ _ W
        have hs2 : W1.heap.size ≤ W.heap.size := hBs
        have hg2 := hgW
        have HIN : Hid (inF l (vals (pre ++ [x])) = inF l (vals pre)) := Lib.hid (by rw [HINF.out, if_neg hxc])
        have hlt2 : g0 < W.heap.size := by omega
        gi_wp2_with (gi_at_builtin; refine wpListIn_append_new _ rfl _ _ 57 rfl W1.heap.size 3 i0 (.int .i64 0) 1 8 Try.underlying57 hi hz0 hz1 hz2 rfl g0 1 [.int .i64 0] rfl (by rw [Below.heap_alloc _ _ _ (by omega)]; exact hg2) rfl ⟨W.heap.size, 0, none⟩ 1 1 [.int .i64 (x.1.2 : Int)] rfl rfl (cell_one_new' rfl _ _) (by decide) (by unfold maxLen; omega) (by omega) (by simp; omega) ?_; intro v' w1 hown' hgrow; obtain ⟨g', cap', rfl⟩ := ownsRow_succ hown'; obtain ⟨q1, q2, q3, q4, q5, q6⟩ := row_step hgrow (fun j e => by cases e) hown' hv2 hi2 (by omega) (by omega) (by omega) hs2 [g0 + 1, g0 + 1 + 1] (by simp); have hc1 := q1.cell; have hf1 := q1.frozen)
        exact ⟨(hk2.trans q5).from _, hB2.trans q6, ⟨⟨_, q2, .inr (by rw [HLEN.out, HBEG.out]; rw [HPN.out]; simpa using q3)⟩, by rw [HIN.out]; exact q4⟩, (hB.trans hB2).trans q6⟩
    · obtain ⟨va, vcap, rfl⟩ := own_slice hrow
      rw [HBL.out] at hrow hv hvc
      by_cases hxc : x.1.1 ≤ l
      · have hxcI : (x.1.1 : Int) ≤ (l : Int) := by omega
        obtain ⟨W2, hW2⟩ : ∃ W2, W.setCell ⟨g0 + 1 + 1, 0, none⟩ (.int .i64 (pre.length : Int)) = W2 := ⟨_, rfl⟩
        have hv2 : Boxed W2 (g0 + 1) 57 (.slice va (pre.length + 1) vcap) := by rw [← hW2]; exact hv.other (by omega) _
        have hi2 : Boxed W2 (g0 + 1 + 1) 3 (.int .i64 (pre.length : Int)) := by rw [← hW2]; exact hI.set _
        have hk2 : KeepsOthers W W2 := by rw [← hW2]; exact KeepsOthers.setCell _ _ _
        have hB2 : But W1.heap.size [g0 + 1, g0 + 1 + 1] W W2 := by rw [← hW2]; exact (But.refl _ _ W).setCell (.inl (by simp)) 0 _
        have hs2 : W1.heap.size ≤ W2.heap.size := by have := hB2.size; omega
        have hrow2 : W2.ownsRow W1.heap.size 3 1 (.slice va (pre.length + 1) vcap) (pre.length + 1) (cellsN (begN (vals pre))) := by
          rw [← hW2]; exact hrow.kept (grownBy_setCell' W (g0 + 1 + 1) _) (.inr (fun e' => by have := (hrow.lt _ e').1; omega))
        have HIN : Hid (inF l (vals (pre ++ [x])) = pre.length) := Lib.hid (by rw [HINF.out, if_pos hxc, HVL.out])
        have hvc2 := hv2.cell
        gi_wp2_with (gi_at_builtin; refine wpListIn_append_own _ rfl _ _ 57 rfl W1.heap.size 3 i0 (.int .i64 0) 1 8 Try.underlying57 hi hz0 hz1 hz2 rfl (by decide) _ _ _ rfl (hrow2.alloc _) ⟨W2.heap.size, 0, none⟩ 1 1 [.int .i64 (x.1.2 : Int)] rfl rfl (cell_one_new' rfl _ _) (by intro u hu; simp at hu; subst hu; rfl) (by unfold maxLen; omega) (by omega) (by simp; omega) ?_; intro v' w1 hown' hgrow _; obtain ⟨g', cap', rfl⟩ := ownsRow_succ hown'; obtain ⟨q1, q2, q3, q4, q5, q6⟩ := row_step hgrow (row_own hrow2 _) hown' hv2 hi2 (by omega) (by omega) (by omega) hs2 [g0 + 1, g0 + 1 + 1] (by simp); have hc1 := q1.cell; have hf1 := q1.frozen)
        exact ⟨(hk2.trans q5).from _, hB2.trans q6, ⟨⟨_, q2, .inr (by rw [HLEN.out, HBEG.out, HBL.out, cellsN, List.map_append]; exact q3)⟩, by rw [HIN.out]; exact q4⟩, (hB.trans hB2).trans q6⟩
      · have hxcI : ¬ (x.1.1 : Int) ≤ (l : Int) := by omega
        have hxcN : ¬ x.1.1 ≤ l := hxc
        obtain ⟨W2, hW2⟩ : ∃ W2, W = W2 := ⟨_, rfl⟩
        subst hW2
        have hv2 := hv
        have hi2 := hI
        have hk2 : KeepsOthers W W := KeepsOthers.refl _
        have hB2 : But W1.heap.size [g0 + 1, g0 + 1 + 1] W W := But.refl _ _ W
        have hs2 : W1.heap.size ≤ W.heap.size := hBs
        have hrow2 := hrow
        have HIN : Hid (inF l (vals (pre ++ [x])) = inF l (vals pre)) := Lib.hid (by rw [HINF.out, if_neg hxc])
        gi_wp2_with (gi_at_builtin; refine wpListIn_append_own _ rfl _ _ 57 rfl W1.heap.size 3 i0 (.int .i64 0) 1 8 Try.underlying57 hi hz0 hz1 hz2 rfl (by decide) _ _ _ rfl (hrow2.alloc _) ⟨W.heap.size, 0, none⟩ 1 1 [.int .i64 (x.1.2 : Int)] rfl rfl (cell_one_new' rfl _ _) (by intro u hu; simp at hu; subst hu; rfl) (by unfold maxLen; omega) (by omega) (by simp; omega) ?_; intro v' w1 hown' hgrow _; obtain ⟨g', cap', rfl⟩ := ownsRow_succ hown'; obtain ⟨q1, q2, q3, q4, q5, q6⟩ := row_step hgrow (row_own hrow2 _) hown' hv2 hi2 (by omega) (by omega) (by omega) hs2 [g0 + 1, g0 + 1 + 1] (by simp); have hc1 := q1.cell; have hf1 := q1.frozen)
        exact ⟨(hk2.trans q5).from _, hB2.trans q6, ⟨⟨_, q2, .inr (by rw [HLEN.out, HBEG.out, HBL.out, cellsN, List.map_append]; exact q3)⟩, by rw [HIN.out]; exact q4⟩, (hB.trans hB2).trans q6⟩
  case done =>
    rintro D ys W hD hys ⟨⟨⟨v, hv, hd⟩, hI⟩, hB⟩ hK
    rcases hd with ⟨rfl, _⟩ | hrow
    · exact absurd hys.symm HNE.out
    have hrow' := ownsRow_putObj hrow (.deferred none) hK rfl
    have hc := hv.cell
    have hic := hI.cell
    have hY := Lib.hid hys
    have hfin : Below w.heap.size w W := hB.below hbel hbel.size (by intro k hk; simp at hk; omega)
    clear hys
    gi_wp2
    gi_region
    all_goals gi_wp2
    all_goals (
      have hK' : W.drew.heap[D]? = some (.deferred (some [])) := hK
      refine ⟨by simp, .inl ⟨_, _, rfl, run_takeDeferred hK', ?_⟩⟩
      exact ⟨_, results_tmp3 rfl _ _ _, v, by rw [← hY.out]; simp, by rw [← hY.out]; exact row_base hrow' hbel.size, below_put (by have := hbel.size; omega) hK' hfin.drew⟩)
  case stop =>
    rintro D c pre W _ _ h _
    exact h.elim
end Go.Proofs.Ytnaceobbbfbhhaa
