/- The walk of the law ChangeRefuses. Conditions: none beyond what it says. -/
import Derived.Test.YtnaceobbbfbhhaaChgT
import Derived.Test.YtnaceobbbfbhhaaChgV
import Derived.Test.YtnaceobbbfbhhaaPos0
import Derived.Test.YtnaceobbbfbhhaaLawKit
namespace Go.Proofs.Ytnaceobbbfbhhaa
open Go.RowKit Go.Shelf

theorem chgs_new2 (X : World) {a1 a2 : Int} {o1 n1 o2 n2 : Option Addr} {p1 q1 p2 q2 : Nat} {O1 N1 O2 N2 : List ByteArray} (h1 : LinesAt X o1 O1) (h2 : LinesAt X n1 N1) (h3 : LinesAt X o2 O2) (h4 : LinesAt X n2 N2) (k1 : O1.length ≤ p1) (k2 : N1.length ≤ q1) (k3 : O2.length ≤ p2) (k4 : N2.length ≤ q2)
    {l1 l2 l3 l4 n : Nat} (e1 : l1 = O1.length) (e2 : l2 = N1.length) (e3 : l3 = O2.length) (e4 : l4 = N2.length) (hn : n = X.heap.size) :
    ChgsAt (X.alloc (.cells #[.int .i64 a1, .slice o1 l1 p1, .slice n1 l2 q1, .int .i64 a2, .slice o2 l3 p2, .slice n2 l4 q2] 40)) (some ⟨n, 0, none⟩) [(a1, O1, N1), (a2, O2, N2)] := by
  subst e1 e2 e3 e4 hn
  intro i hi
  have hi2 : i = 0 ∨ i = 1 := by simp at hi; omega
  rcases hi2 with rfl | rfl
  · exact ⟨X.heap.size, 0, rfl, by simp, by simp [go_sem], ⟨o1, p1, by simp [go_sem], h1.alloc _, k1⟩, ⟨n1, q1, by simp [go_sem], h2.alloc _, k2⟩⟩
  · exact ⟨X.heap.size, 0, rfl, by simp, by simp [go_sem], ⟨o2, p2, by simp [go_sem], h3.alloc _, k3⟩, ⟨n2, q2, by simp [go_sem], h4.alloc _, k4⟩⟩
theorem size_y (s : ByteArray) : s ++ ⟨#[121]⟩ ≠ s := fun e => by
  have := congrArg ByteArray.size e
  rw [ByteArray.size_append] at this
  have h : (⟨#[121]⟩ : ByteArray).size = 1 := rfl
  omega
theorem two_size {L : List ByteArray} {a : Int} {O N : List ByteArray} (h : sizeP L ≤ 1240) (h1 : sizeP O ≤ 3000) (h2 : sizeP N ≤ 3000) (h3 : sizeP (L.take 1) ≤ 1240) (h4 : sizeP cX ≤ 10) : sizeP L + sizeC [(a, O, N), goodC L] ≤ 100000 := by
  rw [sizeC_cons, sizeC_cons]
  simp only [sizeC, List.map_nil, List.sum_nil]
  omega
theorem two_size' {L : List ByteArray} {a : Int} {O N : List ByteArray} (h : sizeP L ≤ 1240) (h1 : sizeP O ≤ 3000) (h2 : sizeP N ≤ 3000) (h3 : sizeP (L.take 1) ≤ 1240) (h4 : sizeP cX ≤ 10) : sizeP L + sizeC [goodC L, (a, O, N)] ≤ 100000 := by
  rw [sizeC_cons, sizeC_cons]
  simp only [sizeC, List.map_nil, List.sum_nil]
  omega
theorem one_size {L : List ByteArray} (h : sizeP L ≤ 1240) (h3 : sizeP (L.take 1) ≤ 1240) (h4 : sizeP cX ≤ 10) : sizeP L + sizeC [goodC L] ≤ 100000 := by
  rw [sizeC_cons]
  simp only [sizeC, List.map_nil, List.sum_nil]
  omega
theorem two_wf {L : List ByteArray} {a : Int} {O N : List ByteArray} (h : -100000 ≤ a ∧ a ≤ 100000) : ∀ c ∈ [(a, O, N), goodC L], (-9223372036854775808 : Int) ≤ c.1 ∧ c.1 ≤ 9223372036854775807 := by
  intro c hc
  simp only [List.mem_cons, List.not_mem_nil, or_false] at hc
  rcases hc with rfl | rfl <;> simp only <;> omega
theorem two_wf' {L : List ByteArray} {a : Int} {O N : List ByteArray} (h : -100000 ≤ a ∧ a ≤ 100000) : ∀ c ∈ [goodC L, (a, O, N)], (-9223372036854775808 : Int) ≤ c.1 ∧ c.1 ≤ 9223372036854775807 := by
  intro c hc
  simp only [List.mem_cons, List.not_mem_nil, or_false] at hc
  rcases hc with rfl | rfl <;> simp only <;> omega
theorem one_wf {L : List ByteArray} : ∀ c ∈ [goodC L], (-9223372036854775808 : Int) ≤ c.1 ∧ c.1 ≤ 9223372036854775807 := by
  intro c hc
  simp only [List.mem_cons, List.not_mem_nil, or_false] at hc
  subst hc
  simp only
  omega
theorem light_if {L : List ByteArray} (h : lightB L = true) : L.length ≤ 40 ∧ sizeP L ≤ 1240 := ⟨(light_spec h).1, light_size h⟩
set_option maxRecDepth 100000 in
set_option maxHeartbeats 8000000 in
theorem changeRefuses_walk (a : Option Addr) (cap : Nat) (L : List ByteArray) (at_ : Int) (ao : Option Addr) (co : Nat) (O : List ByteArray) (an : Option Addr) (cn : Nat) (N : List ByteArray) (first : Bool) (W : World) (hL : LinesAt W a L) (hc : L.length ≤ cap) (hO : LinesAt W ao O) (_hOc : O.length ≤ co) (hN : LinesAt W an N) (hNc : N.length ≤ cn) :
    Calls Try.prog 5 #[.slice a L.length cap, .int .i64 at_, .slice ao O.length co, .slice an N.length cn, .bool first] W fun e W' => e = .returned (.bool true) ∧ Below W.heap.size W W' := by
  go_enter Try.func5, Try.ntmps5
  go_wp2_with fail
  go_at_call 21; refine (known21_any _).mono ?_; rintro e w1 ⟨rfl, hbl⟩; obtain ⟨x0, rfl⟩ := ovr_of_below hbl; clear hbl
  go_wp2_with fail
  cases hli : textB L with
  | false =>
    go_at_call 35; refine (text_any _ _ L _ (by (repeat (first | assumption | refine LinesAt.ovr ?_ _ | refine LinesAt.alloc ?_ _ | refine LinesAt.drewN ?_ _ | refine LinesAt.drew ?_)))).mono ?_; rw [hli]; rintro e w1 ⟨rfl, rfl⟩
    go_wp2_with fail
    go_ret
    exact ⟨rfl, by (repeat (first | with_reducible exact Below.refl _ _ | (with_reducible refine Below.setCell ?_ ?_ _; rotate_left; · (first | exact Nat.le_refl _ | assumption | omega | (simp; done) | (simp; omega))) | (with_reducible refine Below.alloc ?_ ?_ _; rotate_left; · (first | exact Nat.le_refl _ | assumption | omega | (simp; done) | (simp; omega))) | with_reducible refine below_ovr_of ?_ | with_reducible refine drew_below ?_ _ | with_reducible refine Below.drew ?_ | with_reducible assumption))⟩
  | true =>
    go_at_call 35; refine (text_any _ _ L _ (by (repeat (first | assumption | refine LinesAt.ovr ?_ _ | refine LinesAt.alloc ?_ _ | refine LinesAt.drewN ?_ _ | refine LinesAt.drew ?_)))).mono ?_; rw [hli]; rintro e w1 ⟨rfl, rfl⟩
    go_wp2_with fail
    cases hlo : lightB O with
    | false =>
      go_at_call 22; refine (light_any _ _ O _ (by (repeat (first | assumption | refine LinesAt.ovr ?_ _ | refine LinesAt.alloc ?_ _ | refine LinesAt.drewN ?_ _ | refine LinesAt.drew ?_)))).mono ?_; rw [hlo]; rintro e w1 ⟨rfl, rfl⟩
      go_wp2_with fail
      go_ret
      exact ⟨rfl, by (repeat (first | with_reducible exact Below.refl _ _ | (with_reducible refine Below.setCell ?_ ?_ _; rotate_left; · (first | exact Nat.le_refl _ | assumption | omega | (simp; done) | (simp; omega))) | (with_reducible refine Below.alloc ?_ ?_ _; rotate_left; · (first | exact Nat.le_refl _ | assumption | omega | (simp; done) | (simp; omega))) | with_reducible refine below_ovr_of ?_ | with_reducible refine drew_below ?_ _ | with_reducible refine Below.drew ?_ | with_reducible assumption))⟩
    | true =>
      go_at_call 22; refine (light_any _ _ O _ (by (repeat (first | assumption | refine LinesAt.ovr ?_ _ | refine LinesAt.alloc ?_ _ | refine LinesAt.drewN ?_ _ | refine LinesAt.drew ?_)))).mono ?_; rw [hlo]; rintro e w1 ⟨rfl, rfl⟩
      go_wp2_with fail
      cases hln : lightB N with
      | false =>
        go_at_call 22; refine (light_any _ _ N _ (by (repeat (first | assumption | refine LinesAt.ovr ?_ _ | refine LinesAt.alloc ?_ _ | refine LinesAt.drewN ?_ _ | refine LinesAt.drew ?_)))).mono ?_; rw [hln]; rintro e w1 ⟨rfl, rfl⟩
        go_wp2_with fail
        go_ret
        exact ⟨rfl, by (repeat (first | with_reducible exact Below.refl _ _ | (with_reducible refine Below.setCell ?_ ?_ _; rotate_left; · (first | exact Nat.le_refl _ | assumption | omega | (simp; done) | (simp; omega))) | (with_reducible refine Below.alloc ?_ ?_ _; rotate_left; · (first | exact Nat.le_refl _ | assumption | omega | (simp; done) | (simp; omega))) | with_reducible refine below_ovr_of ?_ | with_reducible refine drew_below ?_ _ | with_reducible refine Below.drew ?_ | with_reducible assumption))⟩
      | true =>
        go_at_call 22; refine (light_any _ _ N _ (by (repeat (first | assumption | refine LinesAt.ovr ?_ _ | refine LinesAt.alloc ?_ _ | refine LinesAt.drewN ?_ _ | refine LinesAt.drew ?_)))).mono ?_; rw [hln]; rintro e w1 ⟨rfl, rfl⟩
        obtain ⟨h0, _⟩ := text_spec hli
        rw [text_eq h0] at hli
        obtain ⟨l1, l2⟩ := light_if hli
        obtain ⟨o1, o2⟩ := light_if hlo
        obtain ⟨n1, n2⟩ := light_if hln
        clear hli hlo hln
        have hc1 : (1 : Int) ≤ (cap : Int) := by omega
        have hc1n : 1 ≤ cap := by omega
        have p9 := Int.emod_nonneg at_ (show (9 : Int) ≠ 0 by omega)
        have p9' := Int.emod_lt_of_pos at_ (show (0 : Int) < 9 by omega)
        obtain ⟨i9, h9⟩ := Int.eq_ofNat_of_zero_le p9
        have pl := Int.emod_nonneg at_ (show (L.length : Int) ≠ 0 by omega)
        have pl' := Int.emod_lt_of_pos at_ (show (0 : Int) < (L.length : Int) by omega)
        obtain ⟨j, hj⟩ := Int.eq_ofNat_of_zero_le pl
        rw [h9] at p9'
        rw [hj] at pl'
        have H9 := Lib.hid h9
        have HJ := Lib.hid hj
        clear p9 pl h9 hj
        have hj0 : (0 : Int) ≤ (j : Int) := by omega
        have hjL : j < L.length := by omega
        obtain ⟨b, off, s, rfl, hbb, hcell, hs, HS⟩ := line_facts' hL hjL
        obtain ⟨i0, hi, hz0, hz1, hz2⟩ := info_parts infoStr
        have hSO := Src.of_lines hO
        go_wp2_with fail
        go_at_call 36; refine (hplace_any' at_ 9 (by omega) (by omega) _).mono ?_; rw [H9.out]; rintro e w1 ⟨rfl, rfl⟩
        go_wp2_with fail
        go_at_call 36; refine (hplace_any' at_ (L.length : Int) (by omega) (by omega) _).mono ?_; rw [HJ.out]; rintro e w1 ⟨rfl, rfl⟩
        go_wp2_with fail
        go_at_call 36; refine (hplace_any' at_ (L.length : Int) (by omega) (by omega) _).mono ?_; rw [HJ.out]; rintro e w1 ⟨rfl, hw1⟩
        have hb1 : Below W.heap.size W w1 := by rw [← hw1]; (repeat (first | with_reducible exact Below.refl _ _ | (with_reducible refine Below.setCell ?_ ?_ _; rotate_left; · (first | exact Nat.le_refl _ | assumption | omega | (simp; done) | (simp; omega))) | (with_reducible refine Below.alloc ?_ ?_ _; rotate_left; · (first | exact Nat.le_refl _ | assumption | omega | (simp; done) | (simp; omega))) | with_reducible refine below_ovr_of ?_ | with_reducible refine drew_below ?_ _ | with_reducible refine Below.drew ?_ | with_reducible assumption))
        obtain ⟨g1, hg1⟩ : ∃ g1, W.heap.size + x0.heap.size = g1 := ⟨_, rfl⟩
        rw [hg1]
        have lg1 : W.heap.size ≤ g1 := by omega
        have q0 : w1.cell? ⟨g1 + 1, 0, none⟩ = some (.int .i64 0) := by rw [← hw1, ← hg1]; simp [go_sem]
        have q1 : w1.cell? ⟨g1 + 1, 1, none⟩ = some (.slice (some ⟨b, off, none⟩) 1 cap) := by rw [← hw1, ← hg1]; simp [go_sem]
        have q2 : w1.cell? ⟨g1 + 1, 2, none⟩ = some (.slice (some ⟨g1, 0, none⟩) 1 1) := by rw [← hw1, ← hg1]; simp [go_sem]
        have r0 : w1.cell? ⟨g1 + 1 + 1, 0, none⟩ = some (.int .i64 ((L.length : Int) + 1 + (i9 : Int))) := by rw [← hw1, ← hg1]; simp [go_sem]
        have r1 : w1.cell? ⟨g1 + 1 + 1, 1, none⟩ = some (.slice none 0 0) := by rw [← hw1, ← hg1]; simp [go_sem]
        have r2 : w1.cell? ⟨g1 + 1 + 1, 2, none⟩ = some (.slice an N.length cn) := by rw [← hw1, ← hg1]; simp [go_sem]
        have hX1 : LinesAt w1 (some ⟨g1, 0, none⟩) cX := by
          rw [← hw1]
          exact ((lines_new _ _ _ (by decide) (by decide) rfl (by simp [hg1])).alloc _).alloc _
        have hs1 : g1 + 1 + 1 < w1.heap.size := by rw [← hw1, ← hg1]; simp
        have hSO1 := hSO.below hb1 (Nat.le_refl _)
        have hcell1 : w1.cell? ⟨b, off + j, none⟩ = some (.string s) := (hb1.cell hbb).trans hcell
        have hbb1 : b < w1.heap.size := by omega
        clear hw1 hg1 hcell
        have b1 : 1 + O.length ≤ maxLen := by unfold maxLen; omega
        have b2 : (1 + O.length) * 16 ≤ 140737488355328 := by omega
        have hYl : 1 + O.length = ((s ++ ⟨#[121]⟩) :: O : List ByteArray).length := by simp; omega
        have hYs : sizeP ((s ++ ⟨#[121]⟩) :: O) ≤ 100000 := by
          have q := mem_sizeP (L := L) (s := s) (by rw [← HS.out, List.getD_eq_getElem?_getD, List.getElem?_eq_getElem hjL]; exact List.getElem_mem hjL)
          have e : sizeP ((s ++ ⟨#[121]⟩) :: O) = (s ++ ⟨#[121]⟩ : ByteArray).size + 1 + sizeP O := by simp [sizeP]
          rw [e, ByteArray.size_append]
          have : (⟨#[121]⟩ : ByteArray).size = 1 := rfl
          omega
        go_wp2_with (at_builtin; refine wpList_append_src _ rfl _ _ 22 rfl w1.heap.size 9 i0 (.string ⟨#[]⟩) 1 16 Try.underlying22 hi hz0 hz1 hz2 rfl (by decide) _ 1 [.string (s ++ ⟨#[121]⟩)] rfl (World.ownsRow_lit w1 #[.string (s ++ ⟨#[121]⟩)] 1 (Nat.le_refl _) (by decide) rfl) _ _ _ _ rfl (hSO1.below ((Below.refl _ w1).alloc (Nat.le_refl _) _) (Nat.le_refl _)) b1 b2 (by simp) ?_; intro v1 w2 hown1 hgrow1 _; obtain ⟨va, vc, rfl, hvL, hvc⟩ := lines_of_owns (L := (s ++ ⟨#[121]⟩) :: O) hown1 hYl hYs; have hbe : Below w1.heap.size w1 w2 := ((Below.refl _ w1).alloc (Nat.le_refl _) _).grown hgrow1 (by simp) (fun r e => by cases e; exact Nat.le_refl _); have s0 := (hbe.cell (p := ⟨g1 + 1 + 1, 0, none⟩) hs1).trans r0; have s1 := (hbe.cell (p := ⟨g1 + 1 + 1, 1, none⟩) hs1).trans r1; have s2 := (hbe.cell (p := ⟨g1 + 1 + 1, 2, none⟩) hs1).trans r2; have hs2 : g1 + 1 + 1 < w2.heap.size := Nat.lt_of_lt_of_le hs1 hbe.size)
        refine name_world ?_
        intro W0 hW0
        have hb20 : Below w2.heap.size w2 W0 := by rw [hW0]; (repeat (first | with_reducible exact Below.refl _ _ | (with_reducible refine Below.setCell ?_ ?_ _; rotate_left; · (first | exact Nat.le_refl _ | assumption | omega | (simp; done) | (simp; omega))) | (with_reducible refine Below.alloc ?_ ?_ _; rotate_left; · (first | exact Nat.le_refl _ | assumption | omega | (simp; done) | (simp; omega))) | with_reducible refine below_ovr_of ?_ | with_reducible refine drew_below ?_ _ | with_reducible refine Below.drew ?_ | with_reducible assumption))
        have hb10 := hbe.trans (hb20.mono hbe.size)
        have hb00 : Below W.heap.size W W0 := hb1.trans (hb10.mono hb1.size)
        have c0 := (hb10.cell (p := ⟨g1 + 1, 0, none⟩) (by simp only; omega)).trans q0
        have c1 := (hb10.cell (p := ⟨g1 + 1, 1, none⟩) (by simp only; omega)).trans q1
        have c2 := (hb10.cell (p := ⟨g1 + 1, 2, none⟩) (by simp only; omega)).trans q2
        have d0 := (hb20.cell (p := ⟨g1 + 1 + 1, 0, none⟩) hs2).trans s0
        have d1 := (hb20.cell (p := ⟨g1 + 1 + 1, 1, none⟩) hs2).trans s1
        have d2 := (hb20.cell (p := ⟨g1 + 1 + 1, 2, none⟩) hs2).trans s2
        have lG : g1 + 1 + 1 < W0.heap.size := Nat.lt_of_lt_of_le hs2 hb20.size
        have lG1 : g1 + 1 < W0.heap.size := by omega
        have lL : LinesAt W0 (some ⟨b, off, none⟩) L := hL.below hb00 (Nat.le_refl _)
        have lO : LinesAt W0 va ((s ++ ⟨#[121]⟩) :: O) := hvL.below hb20 (Nat.le_refl _)
        have lN : LinesAt W0 an N := hN.below hb00 (Nat.le_refl _)
        have lX : LinesAt W0 (some ⟨g1, 0, none⟩) cX := hX1.below hb10 (Nat.le_refl _)
        have l0 : LinesAt W0 none [] := ⟨fun i hi => by simp at hi, by simp, by simp⟩
        have lT : LinesAt W0 (some ⟨b, off, none⟩) (L.take 1) := ⟨fun i hi => by
          have hik : i < 1 ∧ i < L.length := by rw [List.length_take] at hi; omega
          obtain ⟨b', off', e, hb', hcell'⟩ := lL.1 i hik.2
          exact ⟨b', off', e, hb', by rw [hcell', List.getD_eq_getElem?_getD, List.getD_eq_getElem?_getD, List.getElem?_take_of_lt hik.1]⟩, by simp; omega, fun u hu => lL.2.2 u (List.mem_of_mem_take hu)⟩
        have eT : (L.take 1).length = 1 := by simp; omega
        have sT := sizeP_take L 1
        have hE : ∀ q : Nat, q < 4 → ∃ at1 oa oc OO na nc NN, W0.cell? ⟨w2.heap.size + 1, q * 3, none⟩ = some (.int .i64 at1) ∧ W0.cell? ⟨w2.heap.size + 1, q * 3 + 1, none⟩ = some (.slice oa (List.length OO) oc) ∧ W0.cell? ⟨w2.heap.size + 1, q * 3 + 2, none⟩ = some (.slice na (List.length NN) nc) ∧
            LinesAt W0 oa OO ∧ OO.length ≤ oc ∧ LinesAt W0 na NN ∧ NN.length ≤ nc ∧ (sizeP OO ≤ 3000 ∧ sizeP NN ≤ 3000) ∧ (-100000 ≤ at1 ∧ at1 ≤ 100000) ∧ applyP L (at1, OO, NN) = none := by
          intro q hq
          have hYs2 : sizeP ((s ++ ⟨#[121]⟩) :: O) ≤ 3000 := by
            have q := mem_sizeP (L := L) (s := s) (by rw [← HS.out, List.getD_eq_getElem?_getD, List.getElem?_eq_getElem hjL]; exact List.getElem_mem hjL)
            have e : sizeP ((s ++ ⟨#[121]⟩) :: O) = (s ++ ⟨#[121]⟩ : ByteArray).size + 1 + sizeP O := by simp [sizeP]
            rw [e, ByteArray.size_append]
            have : (⟨#[121]⟩ : ByteArray).size = 1 := rfl
            omega
          have z0 : sizeP [] ≤ 3000 := by decide
          have hvc' : ((s ++ ⟨#[121]⟩) :: O).length ≤ vc := by simpa using hvc
          obtain rfl | rfl | rfl | rfl : q = 0 ∨ q = 1 ∨ q = 2 ∨ q = 3 := by omega
          · exact ⟨(L.length : Int) + 1 + (i9 : Int), none, 0, [], an, cn, N, by rw [hW0]; simp [go_sem], by rw [hW0]; simp [go_sem], by rw [hW0]; simp [go_sem], l0, Nat.le_refl _, lN, hNc, ⟨z0, by omega⟩, by omega, bad_none (by omega)⟩
          · exact ⟨(j : Int), va, vc, _, an, cn, N, by rw [hW0]; simp [go_sem], by rw [hW0]; simp [go_sem], by rw [hW0]; simp [go_sem], lO, hvc', lN, hNc, ⟨hYs2, by omega⟩, by omega, odd_none hjL (by rw [HS.out]; exact (size_y s).symm)⟩
          · exact ⟨-1, none, 0, [], none, 0, [], by rw [hW0]; simp [go_sem], by rw [hW0]; simp [go_sem], by rw [hW0]; simp [go_sem], l0, Nat.le_refl _, l0, Nat.le_refl _, ⟨z0, z0⟩, by omega, neg_none⟩
          · exact ⟨0, some ⟨b, off, none⟩, cap, L, none, 0, [], by rw [hW0]; simp [go_sem], by rw [hW0]; simp [go_sem], by rw [hW0]; simp [go_sem], lL, hc, l0, Nat.le_refl _, ⟨by omega, z0⟩, by omega, empty_none⟩
        have HE0 := Lib.hid hE
        have HTc : (L.take 1).length ≤ cap := by omega
        have HT := Lib.hid eT
        clear hE hW0 hi hz0 hz1 hz2 hown1 hgrow1 hbe hb20 hb10 hb1 q0 q1 q2 r0 r1 r2 s0 s1 s2 hvL lO hYl hYs hX1 hSO hSO1 hcell1 hL hN hO eT HS H9 HJ
        obtain ⟨B, hB⟩ : ∃ B, g1 + 1 + 1 = B := ⟨_, rfl⟩
        obtain ⟨G, hG⟩ : ∃ G, g1 + 1 = G := ⟨_, rfl⟩
        rw [hB] at d0 d1 d2 lG ⊢
        rw [hG] at c0 c1 c2 lG1 ⊢
        clear hB hG hs1 hs2
        go_loopw [73] (fun i wr => ∃ k : Nat, k ≤ 4 ∧ i = .int .i64 k ∧ ∃ x, wr = ovr W0 x) (fun i _ => 4 - (intOf i).toNat)
        case atStart => exact ⟨0, by omega, rfl, { W0 with heap := #[] }, by simp [ovr]⟩
        case round =>
          obtain ⟨k, hk, rfl, z0, rfl⟩ := hrel
          by_cases hlt : k < 4
          · obtain ⟨at1, oa, oc, OO, na, nc, NN, f0, f1, f2, lOO, kOO, lNN, kNN, ⟨s3, s4⟩, ⟨w3, w4⟩, hno⟩ := HE0.out k hlt
            have lB := cell_lt9 f0
            have hkI : (k : Int) < 4 := by omega
            have hk0 : (0 : Int) ≤ (k : Int) := by omega
            obtain ⟨hA, hF⟩ := refused_all [goodC L] hno
            have HA := Lib.hid hA
            have HF := Lib.hid hF
            clear hA hF hno
            go_wp2_with fail
            go_at_call 25
            refine (applies_any _ _ _ _ L [(at1, OO, NN), goodC L] _ (by (repeat (first | assumption | refine LinesAt.ovr ?_ _ | refine LinesAt.alloc ?_ _ | refine LinesAt.drewN ?_ _ | refine LinesAt.drew ?_))) hc (chgs_new2 _ (by (repeat (first | assumption | refine LinesAt.ovr ?_ _ | refine LinesAt.alloc ?_ _ | refine LinesAt.drewN ?_ _ | refine LinesAt.drew ?_))) (by (repeat (first | assumption | refine LinesAt.ovr ?_ _ | refine LinesAt.alloc ?_ _ | refine LinesAt.drewN ?_ _ | refine LinesAt.drew ?_))) (by (repeat (first | assumption | refine LinesAt.ovr ?_ _ | refine LinesAt.alloc ?_ _ | refine LinesAt.drewN ?_ _ | refine LinesAt.drew ?_))) (by (repeat (first | assumption | refine LinesAt.ovr ?_ _ | refine LinesAt.alloc ?_ _ | refine LinesAt.drewN ?_ _ | refine LinesAt.drew ?_))) kOO kNN HTc (by decide) (by rfl) (by rfl) (by exact HT.out.symm) (by rfl) (by simp)) (two_size l2 s3 s4 (by omega) (by decide)) (by simp) (two_wf ⟨w3, w4⟩)).mono ?_
            rintro e w3 ⟨⟨v, rfl, hv⟩, hbl⟩
            rw [HA.out] at hv
            have hv' : v = .tuple #[.slice none 0 0, .bool false] := hv
            subst hv'
            obtain ⟨y1, rfl⟩ := ovr_of_below hbl
            clear hbl hv
            go_wp2_with fail
            go_at_call 28
            refine (pfits_any _ _ _ _ L [(at1, OO, NN), goodC L] _ (by (repeat (first | assumption | refine LinesAt.ovr ?_ _ | refine LinesAt.alloc ?_ _ | refine LinesAt.drewN ?_ _ | refine LinesAt.drew ?_))) hc (chgs_new2 _ (by (repeat (first | assumption | refine LinesAt.ovr ?_ _ | refine LinesAt.alloc ?_ _ | refine LinesAt.drewN ?_ _ | refine LinesAt.drew ?_))) (by (repeat (first | assumption | refine LinesAt.ovr ?_ _ | refine LinesAt.alloc ?_ _ | refine LinesAt.drewN ?_ _ | refine LinesAt.drew ?_))) (by (repeat (first | assumption | refine LinesAt.ovr ?_ _ | refine LinesAt.alloc ?_ _ | refine LinesAt.drewN ?_ _ | refine LinesAt.drew ?_))) (by (repeat (first | assumption | refine LinesAt.ovr ?_ _ | refine LinesAt.alloc ?_ _ | refine LinesAt.drewN ?_ _ | refine LinesAt.drew ?_))) kOO kNN HTc (by decide) (by rfl) (by rfl) (by exact HT.out.symm) (by rfl) (by simp)) (two_size l2 s3 s4 (by omega) (by decide)) (by simp) (two_wf ⟨w3, w4⟩)).mono ?_
            rw [HF.out]
            rintro e w3 ⟨rfl, hbl⟩
            obtain ⟨y2, rfl⟩ := ovr_of_below hbl
            clear hbl
            go_wp2_with fail
            go_roundw
            case rel => exact ⟨k + 1, by omega, by go_num, ovr_of_below (by (repeat (first | with_reducible exact Below.refl _ _ | (with_reducible refine Below.setCell ?_ ?_ _; rotate_left; · (first | exact Nat.le_refl _ | assumption | omega | (simp; done) | (simp; omega))) | (with_reducible refine Below.alloc ?_ ?_ _; rotate_left; · (first | exact Nat.le_refl _ | assumption | omega | (simp; done) | (simp; omega))) | with_reducible refine below_ovr_of ?_ | with_reducible refine drew_below ?_ _ | with_reducible refine Below.drew ?_ | with_reducible assumption)))⟩
            case measure => simp [intOf]; omega
          · have hkI : ¬ (k : Int) < 4 := by omega
            obtain ⟨hA, hF⟩ := good_bad h0 (at_ := (L.length : Int) + 1 + (i9 : Int)) (O := []) (N := N) (by omega)
            have HA := Lib.hid hA
            have HF := Lib.hid hF
            have HG := Lib.hid (good_all h0)
            have hML : (cX ++ L.drop 1).length = L.length := by simp; omega
            have hM0 : (cX ++ L.drop 1).getD 0 .empty = ⟨#[120]⟩ := rfl
            have bwf : (-100000 : Int) ≤ (L.length : Int) + 1 + (i9 : Int) ∧ (L.length : Int) + 1 + (i9 : Int) ≤ 100000 := by omega
            clear hA hF HE0
            go_wp2_with fail
            go_at_call 25
            refine (applies_any _ _ _ _ L [goodC L, ((L.length : Int) + 1 + (i9 : Int), [], N)] _ (by (repeat (first | assumption | refine LinesAt.ovr ?_ _ | refine LinesAt.alloc ?_ _ | refine LinesAt.drewN ?_ _ | refine LinesAt.drew ?_))) hc (chgs_new2 _ (by (repeat (first | assumption | refine LinesAt.ovr ?_ _ | refine LinesAt.alloc ?_ _ | refine LinesAt.drewN ?_ _ | refine LinesAt.drew ?_))) (by (repeat (first | assumption | refine LinesAt.ovr ?_ _ | refine LinesAt.alloc ?_ _ | refine LinesAt.drewN ?_ _ | refine LinesAt.drew ?_))) (by (repeat (first | assumption | refine LinesAt.ovr ?_ _ | refine LinesAt.alloc ?_ _ | refine LinesAt.drewN ?_ _ | refine LinesAt.drew ?_))) (by (repeat (first | assumption | refine LinesAt.ovr ?_ _ | refine LinesAt.alloc ?_ _ | refine LinesAt.drewN ?_ _ | refine LinesAt.drew ?_))) HTc (by decide) (by decide) hNc (by exact HT.out.symm) (by rfl) (by rfl) (by rfl) (by simp)) (two_size' l2 (by decide) (by omega) (by omega) (by decide)) (by simp) (two_wf' bwf)).mono ?_
            rintro e w3 ⟨⟨v, rfl, hv⟩, hbl⟩
            rw [HA.out] at hv
            have hv' : v = .tuple #[.slice none 0 0, .bool false] := hv
            subst hv'
            obtain ⟨y1, rfl⟩ := ovr_of_below hbl
            clear hbl hv
            go_wp2_with fail
            go_at_call 25
            refine (applies_any _ _ _ _ L [goodC L] _ (by (repeat (first | assumption | refine LinesAt.ovr ?_ _ | refine LinesAt.alloc ?_ _ | refine LinesAt.drewN ?_ _ | refine LinesAt.drew ?_))) hc (chgs_new1 _ (by (repeat (first | assumption | refine LinesAt.ovr ?_ _ | refine LinesAt.alloc ?_ _ | refine LinesAt.drewN ?_ _ | refine LinesAt.drew ?_))) (by (repeat (first | assumption | refine LinesAt.ovr ?_ _ | refine LinesAt.alloc ?_ _ | refine LinesAt.drewN ?_ _ | refine LinesAt.drew ?_))) HTc (by decide) (by exact HT.out.symm) (by rfl) (by simp)) (one_size l2 (by omega) (by decide)) (by simp) one_wf).mono ?_
            rintro e w3 ⟨⟨v, rfl, hv⟩, hbl⟩
            rw [HG.out] at hv
            obtain ⟨ra, rc, rfl, hR, hRc⟩ := hv
            obtain ⟨rb, roff, rfl, hrb, hrc0, _⟩ := hR.line (i := 0) (by rw [hML]; exact h0)
            rw [hM0, Nat.add_zero] at hrc0
            rw [hML]
            obtain ⟨y2, rfl⟩ := ovr_of_below hbl
            clear hbl hR hML hM0 hRc
            have hL0I : (0 : Int) < (L.length : Int) := by omega
            cases first with
            | true =>
              go_wp2_with fail
              go_ret
              exact ⟨by simp, hb00.trans ((by (repeat (first | with_reducible exact Below.refl _ _ | (with_reducible refine Below.setCell ?_ ?_ _; rotate_left; · (first | exact Nat.le_refl _ | assumption | omega | (simp; done) | (simp; omega))) | (with_reducible refine Below.alloc ?_ ?_ _; rotate_left; · (first | exact Nat.le_refl _ | assumption | omega | (simp; done) | (simp; omega))) | with_reducible refine below_ovr_of ?_ | with_reducible refine drew_below ?_ _ | with_reducible refine Below.drew ?_ | with_reducible assumption)) : Below W0.heap.size W0 _).mono hb00.size)⟩
            | false =>
              go_wp2_with fail
              go_at_call 28
              refine (pfits_any _ _ _ _ L [goodC L, ((L.length : Int) + 1 + (i9 : Int), [], N)] _ (by (repeat (first | assumption | refine LinesAt.ovr ?_ _ | refine LinesAt.alloc ?_ _ | refine LinesAt.drewN ?_ _ | refine LinesAt.drew ?_))) hc (chgs_new2 _ (by (repeat (first | assumption | refine LinesAt.ovr ?_ _ | refine LinesAt.alloc ?_ _ | refine LinesAt.drewN ?_ _ | refine LinesAt.drew ?_))) (by (repeat (first | assumption | refine LinesAt.ovr ?_ _ | refine LinesAt.alloc ?_ _ | refine LinesAt.drewN ?_ _ | refine LinesAt.drew ?_))) (by (repeat (first | assumption | refine LinesAt.ovr ?_ _ | refine LinesAt.alloc ?_ _ | refine LinesAt.drewN ?_ _ | refine LinesAt.drew ?_))) (by (repeat (first | assumption | refine LinesAt.ovr ?_ _ | refine LinesAt.alloc ?_ _ | refine LinesAt.drewN ?_ _ | refine LinesAt.drew ?_))) HTc (by decide) (by decide) hNc (by exact HT.out.symm) (by rfl) (by rfl) (by rfl) (by simp)) (two_size' l2 (by decide) (by omega) (by omega) (by decide)) (by simp) (two_wf' bwf)).mono ?_
              rw [HF.out]
              rintro e w3 ⟨rfl, hbl⟩
              obtain ⟨y3, rfl⟩ := ovr_of_below hbl
              clear hbl
              go_wp2_with fail
              go_ret
              exact ⟨by simp, hb00.trans ((by (repeat (first | with_reducible exact Below.refl _ _ | (with_reducible refine Below.setCell ?_ ?_ _; rotate_left; · (first | exact Nat.le_refl _ | assumption | omega | (simp; done) | (simp; omega))) | (with_reducible refine Below.alloc ?_ ?_ _; rotate_left; · (first | exact Nat.le_refl _ | assumption | omega | (simp; done) | (simp; omega))) | with_reducible refine below_ovr_of ?_ | with_reducible refine drew_below ?_ _ | with_reducible refine Below.drew ?_ | with_reducible assumption)) : Below W0.heap.size W0 _).mono hb00.size)⟩
end Go.Proofs.Ytnaceobbbfbhhaa
