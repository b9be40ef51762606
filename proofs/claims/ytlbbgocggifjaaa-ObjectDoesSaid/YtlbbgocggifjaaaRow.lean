/- The frame of every law's row: what the readings of the arguments say of memory, and the row's step. Conditions: none. -/
import Derived.Test.YtlbbgocggifjaaaRows
import Derived.Test.YtlbbgocggifjaaaWorld
import Derived.ProofKit
import Derived.OpenShut
import Derived.ShutString
import Derived.ChangeOld
import Derived.Below
import Derived.SizedLaws
import Derived.SliceStrings
import Derived.Carry
import Derived.ChangeCalls
import Derived.Lib.SmallJoins
namespace Go.Proofs.Ytlbbgocggifjaaa
open Go.ChangeShapes Go.WideShapes Go.ChangeAt Go.RowKit Go.Joins Go.Deep
open Go.ChangeMaps (open_string shut_string)
set_option maxRecDepth 100000

theorem own : ownKnob Try.prog.godebug = none := by kernel_rfl
theorem laidOut : laidOutB Try.prog = true := by kernel_rfl

theorem list_len' (s : ByteArray) : s.data.toList.length = s.size := by simp

section
variable {H : Type} {enc : TypeId × Value → H}

/-- The arguments read again behind a call that wrote nothing that was there. -/
theorem trodAll_below {P : Program} (hl : laidOutB P = true) {W W' : World} (hb : Below W.heap.size W W') : ∀ {ts : List TypeId} {vs : List Value} {ds : List (DataW H)} {ps : List MemPlace},
    ts.all (fun t => P.readableRec t && decide (t < P.types.size)) = true → (∀ x ∈ ps, x.block < W.heap.size) →
    DataW.TrodAll enc P W 0 (fun _ => true) true ts vs ds ps → DataW.TrodAll enc P W' 0 (fun b => decide (b < W.heap.size)) true ts vs ds ps
  | [], vs, ds, ps, _, _, h => by
    obtain ⟨rfl, rfl, rfl⟩ := trodAll_nil h
    exact rfl
  | t :: ts, vs, ds, ps, hr, hlt, h => by
    obtain ⟨v, vs', d, ds', p, q, rfl, rfl, rfl, h0, h1⟩ := trodAll_cons h
    simp only [List.all_cons, Bool.and_eq_true, decide_eq_true_eq] at hr
    exact ⟨p, q, Below.trod hl hr.1.1 hr.1.2 h0 hb (fun x hx => hlt x (List.mem_append_left _ hx)), trodAll_below hl hb (by simpa using hr.2) (fun x hx => hlt x (List.mem_append_right _ hx)) h1, rfl⟩

/-- A law's row, from the walk: it returns true, and writes nothing that was there. -/
theorem law_change {os : Os} (started : os.Started) {f : FuncId} {fn : Func} {s : ChangeSpec} {tb : TypeId}
    (noInit : Try.checked.prog.inits.idxOf? f = none) (hfn : Try.checked.prog.funcs[f]? = some fn)
    (htypes : fn.params.toList.all (fun t => Try.prog.readableRec t && decide (t < Try.prog.types.size)) = true)
    (hres : fn.resultTypes = #[tb]) (hb : Try.prog.underlying tb = some .bool) (hvars : s.vars = [])
    (hspec : ∀ ds : List (DataW H), ds.length = fn.params.toList.length → s.fn H ds = { results := [.lit (.bool true)], args := ds })
    (witness : ∃ (w : World) (tape : Tape) (i : Input), w.os = os ∧ (w.forCall tape i).Shaped Try.checked.prog ∧ i.vars = [] ∧ Input.okWide Try.checked.prog (w.forCall tape i) .any w.heap.size f i ∧
      s.pre6 enc Try.checked.prog fn [] false (w.forCall tape i).memory i.args ∧ ({} : Assume).holds Try.checked.prog (lone (Frame.enter Try.checked.prog f i.args .normal) [] (w.forCall tape i)))
    (walk : ∀ (W : World) (base : Nat) (args : Array Value) (ds : List (DataW H)) (before : List MemPlace),
      (∀ (j : Nat) t v, fn.params[j]? = some t → args[j]? = some v → Value.okWide Try.prog W .any base t v) →
      DataW.TrodAll enc Try.prog W 0 (fun _ => true) true fn.params.toList args.toList ds before →
      (DataW.weightsEach Try.prog fn.params.toList ds).all (· ≤ reachBytes) = true →
      Calls Try.prog f args W fun e W' => e = .returned (.bool true) ∧ Below W.heap.size W W') :
    ReturnsInHanded {} Try.checked os f .any (s.pre6 enc Try.prog fn [] false) (s.post enc Try.prog fn false true false false) := by
  refine returnsInHanded_of_change_sized (C := Try.checked) own started noInit hfn witness ?_
  intro W base args ds gs before hval hW _ hsz _
  have hW' := hW
  obtain ⟨p, q, hA, hV, rfl, hfz, hnd⟩ := hW
  rw [hvars] at hV
  obtain ⟨rfl, rfl⟩ := trodVars_none hV
  simp only [List.append_nil] at hW' hsz
  have hv0 : s.plain.varTypes Try.checked.prog = [] := by
    have : s.plain.vars = [] := hvars
    simp [DataSpec.varTypes, this]
  rw [hv0, List.append_nil] at hsz
  have hlen := (Go.trodAll_length hA).2
  have hlt : ∀ x ∈ p, x.block < W.heap.size := fun x hx => hW'.lt x hx
  refine (walk W base args ds p hval hA hsz).mono fun e W' ⟨he, bel⟩ => ?_
  subst he
  have hs := hspec ds hlen
  refine ⟨_, rfl, ds, [], p, [], p, [], hW', ?_, ?_, ?_, bel.frame _, fun h => by cases h⟩
  · rw [List.append_nil, hs, hres]
    exact trodAll_mk1 (shut_bool hb _)
  · rw [List.append_nil, hs]
    exact trodAll_below laidOut bel htypes hlt hA
  · rw [List.append_nil, hs, hvars]
    exact rfl

theorem spot_none {w : World} {a : Addr} {v : Value} (h : w.cell? a = some v) : a.spot = none := World.cell?_spot h

theorem weights_strs {P : Program} {e : TypeId} : ∀ (ss : List ByteArray) (s : ByteArray), s ∈ ss → s.data.toList.length ∈ DataW.weightsAll (H := H) P e (strs ss)
  | x :: ss, s, h => by
    simp only [strs, List.map_cons, DataW.weightsAll, List.mem_append]
    rcases List.mem_cons.1 h with rfl | h
    · left; simp [DataW.weights]
    · right; exact weights_strs ss s h

/-- A []string that came in. -/
theorem open_lines {ts : List TypeId} {ds : List (DataW H)} {W : World} {base : Nat} {v : Value} {d : DataW H} {p : List MemPlace} {j : Nat} {t e : TypeId}
    (ht : Try.prog.underlying t = some (.slice e)) (he : Try.prog.underlying e = some .string) (hc : Try.prog.cellsOf e = 1) (hby : Try.prog.bytesOf e = 16)
    (hv : Value.okWide Try.prog W .any base t v) (h : DataW.Trod enc Try.prog W 0 (fun _ => true) true t v d p)
    (hsz : (DataW.weightsEach Try.prog ts ds).all (· ≤ reachBytes) = true) (htj : ts[j]? = some t) (hdj : ds[j]? = some d) :
    ∃ a L cap, v = .slice a L.length cap ∧ LinesAt W a L := by
  obtain ⟨a0, len, cap, rfl⟩ := okWide_slice ht hv
  obtain ⟨fuel, hf⟩ := h
  rcases open_strings ht he hc hf with ⟨hcs, hx⟩ | ⟨a, len', cap', ss, hcs, _, hl, hm, hz, hx, hcell, hws⟩
  · simp [Value.cells] at hcs
    obtain ⟨rfl, rfl, rfl⟩ := hcs
    exact ⟨none, [], 0, rfl, fun i hi => absurd hi (by simp), by simp, by simp⟩
  · simp [Value.cells] at hcs
    obtain ⟨rfl, rfl, rfl⟩ := hcs
    simp only [Prod.mk.injEq] at hx
    obtain ⟨rfl, rfl⟩ := hx
    simp at hz
    have hlz : len ≤ ss.length := by omega
    have hlen : (ss.take len).length = len := by simp; omega
    have h16 := sized_slice hsz htj hdj ht
    rw [hby] at h16
    simp only [strs, List.length_map, List.length_take, List.length_drop, reachBytes] at h16
    have hall : ∀ s ∈ ss.take len, s.data.toList.length ≤ reachBytes := by
      intro s hs
      have := List.all_eq_true.1 hsz _ (DataW.weights_mem_each htj hdj s.data.toList.length (by
        simp only [DataW.weights, ht, List.mem_cons, List.mem_append]
        right; left; exact weights_strs _ s hs))
      simpa using this
    refine ⟨some a, ss.take len, cap, by rw [hlen], fun i hi => ?_, by rw [hlen]; omega, fun s hs => ?_⟩
    · rw [hlen] at hi
      have hci := hcell i (by omega)
      have hspot : a.spot = none := by
        have h0 := hcell 0 (by omega)
        simpa [Addr.add] using World.cell?_spot h0
      obtain ⟨b, off, spot⟩ := a
      simp only at hspot
      subst hspot
      have hci' : W.cell? ⟨b, off + i, none⟩ = some (.string (ss.getD i .empty)) := by rw [← add_plain]; exact hci
      refine ⟨b, off, rfl, World.block_lt_of_cell? W _ hci', ?_⟩
      rw [hci', List.getD_eq_getElem?_getD, List.getD_eq_getElem?_getD, List.getElem?_take, if_pos hi]
    · have := hall s hs
      rw [list_len'] at this
      simpa [reachBytes] using this

/-- A place (a struct of two ints) that came in. -/
theorem open_pos {W : World} {base : Nat} {v : Value} {d : DataW H} {p : List MemPlace} {t e : TypeId} {f0 f1 : Field} (hs : Try.prog.underlying t = some (.struct #[f0, f1])) (hone : oneCellFields Try.prog #[f0, f1] = true) (hC : Try.prog.cellsOf t = 2)
    (h0 : f0.type = e) (h1 : f1.type = e) (he : Try.prog.underlying e = some (.int .i64)) (hv : Value.okWide Try.prog W .any base t v) (h : DataW.Trod enc Try.prog W 0 (fun _ => true) true t v d p) :
    ∃ x y, v = .agg #[.int .i64 x, .int .i64 y] ∧ (Lit.int .i64 x).wf = true ∧ (Lit.int .i64 y).wf = true := by
  obtain ⟨c0, c1, y0, y1, m, rfl, rfl, rfl, hy0, hy1⟩ := open_agg2 hs hone hC hv h
  rw [h0] at hy0
  rw [h1] at hy1
  obtain ⟨a, e0, _, wa⟩ := DataW.trod_int he hy0
  obtain ⟨b, e1, _, wb⟩ := DataW.trod_int he hy1
  simp at e0 e1
  subst e0; subst e1
  exact ⟨a, b, rfl, wa, wb⟩
end
end Go.Proofs.Ytlbbgocggifjaaa
