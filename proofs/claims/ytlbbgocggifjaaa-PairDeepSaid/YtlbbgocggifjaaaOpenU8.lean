/- A []uint8 that came in, opened. Conditions: none. -/
import Derived.Test.YtlbbgocggifjaaaRow
import Derived.Test.YtlbbgocggifjaaaPairDeep
import Derived.ChangeSlices
namespace Go.Proofs.Ytlbbgocggifjaaa
open Go.ChangeShapes Go.WideShapes Go.ChangeAt Go.RowKit Go.Joins Go.Deep
set_option maxRecDepth 100000

theorem open_u8s {H : Type} {enc : TypeId × Value → H} {ts : List TypeId} {ds : List (DataW H)} {W : World} {base : Nat} {v : Value} {d : DataW H} {p : List MemPlace} {j : Nat} (hc : Try.prog.cellsOf 5 = 1) (hby : Try.prog.bytesOf 5 = 1)
    (hv : Value.okWide Try.prog W .any base 44 v) (h : DataW.Trod enc Try.prog W 0 (fun _ => true) true 44 v d p) (hsz : (DataW.weightsEach Try.prog ts ds).all (· ≤ reachBytes) = true) (htj : ts[j]? = some 44) (hdj : ds[j]? = some d) :
    ∃ a K cap, v = .slice a K.length cap ∧ U8sAt W a K ∧ K.length ≤ 140737488351232 := by
  obtain ⟨a0, len, cap, rfl⟩ := okWide_slice Try.underlying44 hv
  obtain ⟨fuel, hf⟩ := h
  rcases open_ints Try.underlying44 Try.underlying5 hc hf with ⟨e, hx⟩ | ⟨a, len', cap', zs, e, _, hl, hm, hz, hx, hcell, hwf⟩
  · simp [Value.cells] at e
    obtain ⟨rfl, rfl, rfl⟩ := e
    exact ⟨none, [], 0, rfl, fun i hi => absurd hi (by simp), by simp⟩
  · simp [Value.cells] at e
    obtain ⟨rfl, rfl, rfl⟩ := e
    simp at hz
    simp only [Prod.mk.injEq] at hx
    obtain ⟨rfl, rfl⟩ := hx
    have hlen : (zs.take len).length = len := by simp; omega
    have h1 : ∀ n ∈ (DataW.slice (lits .u8 (zs.take len)) (lits .u8 (zs.drop len)) : DataW H).weights Try.prog 44, n ≤ reachBytes := fun n hn => by
      have := List.all_eq_true.1 hsz _ (DataW.weights_mem_each htj hdj n hn)
      simpa using this
    have h16 := h1 _ (by simp only [DataW.weights, Try.underlying44]; exact List.mem_cons_self ..)
    rw [hby] at h16
    simp only [lits, List.length_map, List.length_take, List.length_drop, reachBytes] at h16
    refine ⟨some a, zs.take len, cap, by rw [hlen], fun i hi => ?_, by rw [hlen]; omega⟩
    rw [hlen] at hi
    have hci := hcell i (by omega)
    have hspot : a.spot = none := by
      have h0 := hcell 0 (by omega)
      simpa [Addr.add] using World.cell?_spot h0
    obtain ⟨b, off, spot⟩ := a
    simp only at hspot
    subst hspot
    have hci' : W.cell? ⟨b, off + i, none⟩ = some (.int .u8 (zs.getD i 0)) := by rw [← add_plain]; exact hci
    have hg : (zs.take len).getD i 0 = zs.getD i 0 := by rw [List.getD_eq_getElem?_getD, List.getD_eq_getElem?_getD, List.getElem?_take, if_pos hi]
    have hin : zs.getD i 0 ∈ zs := by
      rw [List.getD_eq_getElem?_getD, List.getElem?_eq_getElem (by omega)]
      exact List.getElem_mem ..
    obtain ⟨b0, b1⟩ := Go.bounds_u8 (hwf _ hin)
    exact ⟨b, off, rfl, World.block_lt_of_cell? W _ hci', by rw [hg]; exact hci', by rw [hg]; exact b0, by rw [hg]; exact b1⟩
end Go.Proofs.Ytlbbgocggifjaaa
