/- Layer 21: what the laws owe of changes made to fit. Plain Lean but for its imports. Conditions: none. -/
import Derived.Test.YtnaceobbbfbhhaaChgN
namespace Go.Proofs.Ytnaceobbbfbhhaa

theorem applyAll_size : ∀ (cs : List Chg) {L M : List ByteArray}, applyAll L cs = some M → sizeP M ≤ sizeP L + sizeN cs
  | [], L, M, h => by cases h; omega
  | c :: cs, L, M, h => by
    rw [applyAll] at h
    cases hc : applyP L c with
    | none => rw [hc] at h; cases h
    | some M' =>
      rw [hc] at h
      have h1 := applyAll_size cs h
      have h2 := applyP_size hc
      rw [sizeN_cons]; omega
theorem madeP_wf : ∀ (cs : List Chg) (L : List ByteArray), sizeP L + sizeN cs ≤ 100000 → ∀ c ∈ madeP L cs, 0 ≤ c.1 ∧ c.1 ≤ 100000
  | [], L, _, c, hc => by simp [madeP] at hc
  | d :: cs, L, hs, c, hc => by
    rw [sizeN_cons] at hs
    rw [madeP] at hc
    cases h : applyP L (fitC L d) with
    | none => rw [h] at hc; exact madeP_wf cs L (by omega) c hc
    | some M' =>
      rw [h] at hc
      have h2 := applyP_size h
      have e : (fitC L d).2.2 = d.2.2 := rfl
      rw [e] at h2
      have hl := len_sizeP L
      rcases List.mem_cons.1 hc with rfl | hc
      · exact wf_fitC L d (by omega)
      · exact madeP_wf cs M' (by omega) c hc
theorem invP_wf {cs : List Chg} {a b : Int} (h : ∀ c ∈ cs, a ≤ c.1 ∧ c.1 ≤ b) : ∀ c ∈ invP cs, a ≤ c.1 ∧ c.1 ≤ b := by
  intro c hc
  simp only [invP, List.mem_reverse, List.mem_map] at hc
  obtain ⟨d, hd, rfl⟩ := hc
  exact h d hd
theorem sizeN_invP (cs : List Chg) : sizeN (invP cs) ≤ sizeC cs := by rw [← sizeC_invP]; exact sizeN_le _
/-- Of light changes, made to fit a light text. -/
theorem made_facts {L : List ByteArray} {cs : List Chg} (hL : lightB L = true) (hC : LightC cs) : ∃ P M, madeP L cs = P ∧ applyAll L P = some M ∧ (0 < L.length → applyAll M (invP P) = some L) ∧ P.length ≤ 12 ∧ sizeP L ≤ 1240 ∧ sizeC cs ≤ 29760 ∧ sizeN cs ≤ 29760 ∧ sizeC P ≤ 60760 ∧ sizeP M ≤ 31000 ∧ (∀ c ∈ P, (-9223372036854775808 : Int) ≤ c.1 ∧ c.1 ≤ 9223372036854775807) := by
  obtain ⟨M, hM⟩ := madeP_all cs L
  have h1 := light_size hL
  have h2 := lightC_size hC.2
  have h3 := hC.1
  have h4 := sizeN_le cs
  have h5 := madeP_size cs L
  have h6 := madeP_len cs L
  have h8 : sizeN (madeP L cs) ≤ sizeN cs := madeP_sizeN cs L
  have h7 := applyAll_size _ hM
  exact ⟨_, M, rfl, hM, fun h0 => applyAll_back _ h0 hM, by omega, h1, by omega, by omega, by omega, by omega, fun c hc => by have := madeP_wf cs L (by omega) c hc; omega⟩
end Go.Proofs.Ytnaceobbbfbhhaa
