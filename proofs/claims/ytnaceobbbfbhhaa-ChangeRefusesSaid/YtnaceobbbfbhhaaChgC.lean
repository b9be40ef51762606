/- The reference's one change, where it applies. Conditions: lengths that a machine bears. -/
import Derived.Test.YtnaceobbbfbhhaaChgA
import Derived.Test.YtnaceobbbfbhhaaAppStep
namespace Go.Proofs.Ytnaceobbbfbhhaa
open Go.RowKit Go.Shelf

theorem name_worldE {R : Exit → Act → World → Prop} {e : Exit} {a : Act} {w : World} (h : ∀ W, W = w → R e a W) : R e a w := h w rfl

set_option maxRecDepth 100000 in
set_option maxHeartbeats 4000000 in
theorem rone_some (a ao an : Option Addr) (cap co cn : Nat) (L O N : List ByteArray) (k : Nat) (w : World) (hL : LinesAt w a L) (hc : L.length ≤ cap) (hO : LinesAt w ao O) (hN : LinesAt w an N) (hs : sizeP L + sizeP O + sizeP N ≤ 100000)
    (h1 : k + O.length ≤ L.length) (h2 : ¬ (L.length : Int) - (O.length : Int) + (N.length : Int) = 0) (h3 : eqB ((L.drop k).take O.length) O = true) (hy : applyP L ((k : Int), O, N) = some (L.take k ++ (N ++ L.drop (k + O.length)))) :
    Calls Try.prog 75 #[.slice a L.length cap, .agg #[.int .i64 (k : Int), .slice ao O.length co, .slice an N.length cn]] w fun e w' => (∃ v, e = .returned v ∧ AppF w.heap.size w' (applyP L ((k : Int), O, N)) v) ∧ Below w.heap.size w w' := by
  have lL := len_sizeP L
  have lO := len_sizeP O
  have lN := len_sizeP N
  have hOb : O.length ≤ 100000 := by omega
  rw [hy]
  have h4 : ((L.length : Int) - (O.length : Int) + (N.length : Int) == 0) = false := by rw [beq_eq_false_iff_ne]; exact h2
  have hd : decide ((k : Int) < 0) = false := decide_eq_false (by omega)
  have hkL : k ≤ L.length := by omega
  have hd2 : decide ((L.length : Int) < (k : Int)) = false := decide_eq_false (by omega)
  have hd2n : decide (L.length < k) = false := decide_eq_false (by omega)
  have w1 : IntKind.i64.wrap ((L.length : Int) - (k : Int)) = (L.length : Int) - (k : Int) := IntWalk.i64_in _ (by omega)
  have hd3 : decide ((L.length : Int) - (k : Int) < (O.length : Int)) = false := decide_eq_false (by omega)
  have w2 : IntKind.i64.wrap ((L.length : Int) - (O.length : Int)) = (L.length : Int) - (O.length : Int) := IntWalk.i64_in _ (by omega)
  have w3 : IntKind.i64.wrap ((L.length : Int) - (O.length : Int) + (N.length : Int)) = (L.length : Int) - (O.length : Int) + (N.length : Int) := IntWalk.i64_in _ (by clear w1 w2; omega)
  have hk0 : (0 : Int) ≤ (k : Int) := by omega
  have hkc : (k : Int) + (O.length : Int) ≤ (cap : Int) := by omega
  have hk3 : (k : Int) ≤ (k : Int) + (O.length : Int) := by omega
  have hk4 : ((k : Int) + (O.length : Int)).toNat = k + O.length := by omega
  have hk6 : (0 : Int) ≤ (k : Int) + (O.length : Int) := by omega
  have hk5 : IntKind.i64.wrap ((k : Int) + (O.length : Int)) = (k : Int) + (O.length : Int) := IntWalk.i64_in _ (by clear w1 w2 w3; omega)
  have hP := hL.piece (lo := k) (n := O.length) (by clear w1 w2 w3 hk5; omega) hc
  have hPl : ((L.drop k).take O.length).length = O.length := by clear w1 w2 w3 hk5; simp; omega
  obtain ⟨A1, hA1⟩ : ∃ A1, (if cap = k then a else a.map (fun x => x.add k)) = A1 := ⟨_, rfl⟩
  rw [hA1] at hP
  have HPL := Lib.hid hPl
  clear hPl
  have H3 := Lib.hid h3
  clear h2 h3
  have hP0 : LinesAt w a (L.take k) := ⟨fun i hi => by
    have hik : i < k ∧ i < L.length := by rw [List.length_take] at hi; clear w1 w2 w3 hk5; omega
    obtain ⟨b, off, e, hb, hcell⟩ := hL.1 i hik.2
    exact ⟨b, off, e, hb, by rw [hcell, List.getD_eq_getElem?_getD, List.getD_eq_getElem?_getD, List.getElem?_take_of_lt hik.1]⟩, by have := hL.2.1; clear w1 w2 w3 hk5; simp; omega, fun s hs => hL.2.2 s (List.mem_of_mem_take hs)⟩
  have hP2 := hL.piece (lo := k + O.length) (n := L.length - (k + O.length)) (by clear w1 w2 w3 hk5; omega) hc
  have e2 : (L.drop (k + O.length)).take (L.length - (k + O.length)) = L.drop (k + O.length) := List.take_of_length_le (by simp)
  rw [e2] at hP2
  obtain ⟨A2, hA2⟩ : ∃ A2, (if cap = k + O.length then a else a.map (fun x => x.add (k + O.length))) = A2 := ⟨_, rfl⟩
  rw [hA2] at hP2
  have hl0 : (L.take k).length = k := by clear w1 w2 w3 hk5; simp; omega
  have hl2 : (L.drop (k + O.length)).length = L.length - (k + O.length) := by simp
  have hsz := sizeP_cut L k O.length
  have hS0 := Src.of_lines hP0
  rw [hl0] at hS0
  have hSN := Src.of_lines hN
  have hS2 := Src.of_lines hP2
  rw [hl2] at hS2
  have hkcap : (k : Int) ≤ (cap : Int) := by clear w1 w2 w3 hk5; omega
  have hkl : (k : Int) + (O.length : Int) ≤ (L.length : Int) := by clear w1 w2 w3 hk5; omega
  obtain ⟨i0, hi, hz0, hz1, hz2⟩ := info_parts infoStr
  clear e2 hl0 hl2
  go_enter Try.func75, Try.ntmps75
  go_wp2
  (refine wp_region_ovr (by kernel_rfl) (by kernel_rfl) ?_; (repeat (go_big_quiet_step ((go_at_call 114; exact quiet_ovr (same_at _ _ _ _ _ _ O _ HPL.out (by (repeat (first | assumption | refine LinesAt.ovr ?_ _ | refine LinesAt.alloc ?_ _ | refine LinesAt.drewN ?_ _ | refine LinesAt.drew ?_))) (by (repeat (first | assumption | refine LinesAt.ovr ?_ _ | refine LinesAt.alloc ?_ _ | refine LinesAt.drewN ?_ _ | refine LinesAt.drew ?_))) (by rw [HPL.out]; exact hOb) H3))))); refine wpQuiet_nil ?_; rintro _ ⟨zq, rfl⟩)
  refine name_worldE ?_
  intro W5 hW5
  have hb5 : Below w.heap.size w W5 := by rw [hW5]; (repeat (first | with_reducible exact Below.refl _ _ | (with_reducible refine Below.setCell ?_ ?_ _; rotate_left; · (first | exact Nat.le_refl _ | assumption | omega | (simp; done) | (simp; omega))) | (with_reducible refine Below.alloc ?_ ?_ _; rotate_left; · (first | exact Nat.le_refl _ | assumption | omega | (simp; done) | (simp; omega))) | with_reducible refine below_ovr_of ?_ | with_reducible refine drew_below ?_ _ | with_reducible refine Below.drew ?_ | with_reducible assumption))
  have q0 : W5.cell? ⟨w.heap.size, 0, none⟩ = some (.int .i64 (k : Int)) := by rw [hW5]; simp [go_sem]
  have q1 : W5.cell? ⟨w.heap.size, 1, none⟩ = some (.slice ao O.length co) := by rw [hW5]; simp [go_sem]
  have q2 : W5.cell? ⟨w.heap.size, 2, none⟩ = some (.slice an N.length cn) := by rw [hW5]; simp [go_sem]
  have lw : w.heap.size < W5.heap.size := by rw [hW5]; simp; omega
  clear hW5
  go_wp2_with (at_builtin; refine wpList_append_src _ rfl _ _ 22 rfl W5.heap.size 9 i0 (.string ⟨#[]⟩) 1 16 Try.underlying22 hi hz0 hz1 hz2 rfl (by decide) _ 0 [] rfl (World.ownsRow_nil _ _ _ _) _ _ _ _ rfl (hS0.below hb5 (Nat.le_refl _)) (by unfold maxLen; clear w1 w2 w3 hk5; omega) (by clear w1 w2 w3 hk5; omega) (by simp) ?_; intro v1 w2' hown1 hgrow1 hat1)
  simp only [Nat.zero_add, List.nil_append] at hown1
  have hbe : Below W5.heap.size W5 w2' := (Below.refl _ _).grown hgrow1 (Nat.le_refl _) (fun r e => by cases (show (none : Option Nat) = some r from e))
  have p0 := (hbe.cell lw).trans q0
  have p1 := (hbe.cell lw).trans q1
  have p2 := (hbe.cell lw).trans q2
  have hlt := hbe.size
  have lw2 : w.heap.size < w2'.heap.size := Nat.lt_of_lt_of_le lw hlt
  have hv1 : ∀ r, v1.ownBlock = some r → W5.heap.size ≤ r := fun r e => by
    rcases hat1 with h | h
    · cases (show (none : Option Nat) = some r from h.symm.trans e)
    · exact Nat.le_of_eq (Option.some.inj (h.symm.trans e))
  have hSN5 := (hSN.below hb5 (Nat.le_refl _)).below hbe (Nat.le_refl _)
  have hS2W := hS2.below hb5 (Nat.le_refl _)
  have hbw : Below w.heap.size w w2' := hb5.trans (hbe.mono hb5.size)
  have hb5s := hb5.size
  clear hb5 q0 q1 q2 hgrow1 hat1 hL hO hN hP hP0 hP2 hA1 hS0 hS2 hSN
  have hMl : k + N.length + (L.length - (k + O.length)) = (L.take k ++ (N ++ L.drop (k + O.length))).length := by clear w1 w2 w3 hk5; simp; omega
  have hMs : sizeP (L.take k ++ (N ++ L.drop (k + O.length))) ≤ 100000 := by rw [sizeP_app, sizeP_app]; clear w1 w2 w3 hk5; omega
  have b1 : k + N.length ≤ maxLen := by unfold maxLen; clear w1 w2 w3 hk5; omega
  have b2 : (k + N.length) * 16 ≤ 140737488355328 := by clear w1 w2 w3 hk5; omega
  have b3 : k + N.length + (L.length - (k + O.length)) ≤ maxLen := by unfold maxLen; clear w1 w2 w3 hk5; omega
  have b4 : (k + N.length + (L.length - (k + O.length))) * 16 ≤ 140737488355328 := by clear w1 w2 w3 hk5; omega
  go_region_held3 (fun w' => w.heap.size < w'.heap.size ∧ w'.cell? ⟨w.heap.size, 0, none⟩ = some (.int .i64 (k : Int)) ∧ w'.cell? ⟨w.heap.size, 1, none⟩ = some (.slice ao O.length co) ∧ w'.cell? ⟨w.heap.size, 2, none⟩ = some (.slice an N.length cn)) (((repeat' apply And.intro) <;> first | assumption | (simp [go_sem]; done) | (simp [go_sem, p0, p1, p2, lw2]; done))) ((first | (refine step_append_src _ (by rfl) _ _ 22 (by rfl) W5.heap.size 9 i0 (.string ⟨#[]⟩) 1 16 Try.underlying22 hi hz0 hz1 hz2 rfl (by decide) v1 k ((L.take k).map Value.string) (by rfl) hown1.drew an N.length cn (N.map Value.string) (by rfl) (hSN5.below ((Below.refl _ _).drew) (Nat.le_refl _)) b1 b2 (by simp; omega) ?_; intro v2 X3 hown2 hgrow2 hat2; have hbe2 : Below W5.heap.size w2' X3 := ((Below.refl _ _).drew).grown hgrow2 hlt hv1; have r0 := (hbe2.cell lw).trans p0; have r1 := (hbe2.cell lw).trans p1; have r2 := (hbe2.cell lw).trans p2; have lX3 : w.heap.size < X3.heap.size := Nat.lt_of_lt_of_le lw2 hbe2.size) | (refine step_append_src _ (by rfl) _ _ 22 (by rfl) W5.heap.size 9 i0 (.string ⟨#[]⟩) 1 16 Try.underlying22 hi hz0 hz1 hz2 rfl (by decide) v2 (k + N.length) ((L.take k).map Value.string ++ N.map Value.string) (by rfl) hown2 A2 (L.length - (k + O.length)) (cap - (k + O.length)) ((L.drop (k + O.length)).map Value.string) (by rfl) (hS2W.below (hbe.trans hbe2) (Nat.le_refl _)) b3 b4 (Nat.le_trans hlt (Nat.le_trans (Nat.le_refl _) hbe2.size)) ?_; intro v3 w4 hown3 hgrow3 hat3; have hv2 : ∀ r, v2.ownBlock = some r → W5.heap.size ≤ r := fun r e => hat2.elim (fun h => hv1 r (h.symm.trans e)) (fun h => Nat.le_trans hlt (Nat.le_of_eq (Option.some.inj (h.symm.trans e)))); have hbe4 : Below W5.heap.size X3 w4 := (Below.refl _ _).grown hgrow3 (Nat.le_trans hlt hbe2.size) hv2; have u0 := (hbe4.cell lw).trans r0; have u1 := (hbe4.cell lw).trans r1; have u2 := (hbe4.cell lw).trans r2; have lw4 : w.heap.size < w4.heap.size := Nat.lt_of_lt_of_le lX3 hbe4.size)))
  all_goals (
    have hown4 : w4.ownsRow W5.heap.size 9 1 v3 (k + N.length + (L.length - (k + O.length))) ((L.take k ++ (N ++ L.drop (k + O.length))).map Value.string) := by
      rw [List.map_append, List.map_append, ← List.append_assoc]
      exact hown3
    have hfr : ∀ g, v3.ownBlock = some g → w.heap.size ≤ g := fun g e => Nat.le_trans hb5s (hown4.lt g e).1
    obtain ⟨ra, rc, rfl, hR, hRc⟩ := lines_of_owns hown4 hMl hMs
    have HFR : Hid (∀ g off, ra = some ⟨g, off, none⟩ → w.heap.size ≤ g) := Lib.hid (fun g off e => hfr g (by rw [e]; rfl))
    clear hfr
    have hbf : Below w.heap.size w w4 := (hbw.trans (hbe2.mono hb5s)).trans (hbe4.mono hb5s)
    clear w1 w2 w3 hk5
    go_wp2
    go_ret2
    exact ⟨⟨_, rfl, ⟨_, _, rfl, hR, hRc, HFR.out⟩⟩, hbf⟩)
end Go.Proofs.Ytnaceobbbfbhhaa
