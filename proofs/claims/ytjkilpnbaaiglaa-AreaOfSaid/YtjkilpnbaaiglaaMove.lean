/- A motion (a struct of a place, a way, a flag, a number) that came in. Conditions: none. -/
import Derived.Test.YtjkilpnbaaiglaaRow
namespace Go.Proofs.Ytjkilpnbaaiglaa
open Go.ChangeShapes Go.WideShapes Go.ChangeAt Go.RowKit Go.Joins Go.Deep

theorem list5 {α : Type} {l : List α} (h : l.length = 5) : ∃ a b c d e, l = [a, b, c, d, e] := by
  match l, h with
  | [a, b, c, d, e], _ => exact ⟨a, b, c, d, e, rfl⟩
theorem list4' {α : Type} {l : List α} (h : l.length = 4) : ∃ a b c d, l = [a, b, c, d] := by
  match l, h with
  | [a, b, c, d], _ => exact ⟨a, b, c, d, rfl⟩

theorem open_move {H : Type} {enc : TypeId × Value → H} {W : World} {base : Nat} {v : Value} {d : DataW H} {p : List MemPlace}
    (hC : Try.prog.cellsOf 48 = 5) (hC2 : Try.prog.cellsOf 28 = 2) (hC3 : Try.prog.cellsOf 3 = 1) (hC4 : Try.prog.cellsOf 4 = 1)
    (hv : Value.okWide Try.prog W .any base 48 v) (h : DataW.Trod enc Try.prog W 0 (fun _ => true) true 48 v d p) :
    ∃ a b c j e, v = .agg #[.int .i64 a, .int .i64 b, .int .i64 c, .bool j, .int .i64 e] := by
  obtain ⟨cs, rfl, hsz⟩ := okWide_struct Try.underlying48 hv
  obtain ⟨l⟩ := cs
  obtain ⟨c0, c1, c2, c3, c4, rfl⟩ := list5 (by simpa using hsz.trans hC)
  obtain ⟨fuel, hf⟩ := h
  obtain ⟨xs, n, _, _, _, hlen, hg⟩ := DataW.trod_struct Try.underlying48 hf
  obtain ⟨x0, x1, x2, x3, rfl⟩ := list4' (by simpa using hlen)
  have g0 := hg 0 _ rfl
  have g1 := hg 1 _ rfl
  have g2 := hg 2 _ rfl
  have g3 := hg 3 _ rfl
  simp [Value.cells, hC2, hC3, hC4] at g0 g1 g2 g3
  obtain ⟨ys, m, _, _, _, hlen2, hg2⟩ := DataW.trod_struct Try.underlying28 g0
  obtain ⟨y0, y1, rfl⟩ : ∃ a b, ys = [a, b] := by
    match ys, hlen2 with
    | [a, b], _ => exact ⟨a, b, rfl⟩
  have k0 := hg2 0 _ rfl
  have k1 := hg2 1 _ rfl
  simp [hC3] at k0 k1
  obtain ⟨a, e0, _, _⟩ := DataW.trod_int Try.underlying3 k0
  obtain ⟨b, e1, _, _⟩ := DataW.trod_int Try.underlying3 k1
  obtain ⟨c, e2, _, _⟩ := DataW.trod_int Try.underlying3 g1
  obtain ⟨q, e3, _⟩ := DataW.trod_bool Try.underlying4 g2
  obtain ⟨e, e4, _, _⟩ := DataW.trod_int Try.underlying3 g3
  simp at e0 e1 e2 e3 e4
  subst e0; subst e1; subst e2; subst e3; subst e4
  exact ⟨a, b, c, q, e, rfl⟩
end Go.Proofs.Ytjkilpnbaaiglaa
