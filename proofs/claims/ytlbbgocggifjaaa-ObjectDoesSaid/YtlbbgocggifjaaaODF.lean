/- What the row says of the program, each by itself. Conditions: none. -/
import Derived.Test.YtlbbgocggifjaaaRow
import Derived.Test.YtlbbgocggifjaaaRows
namespace Go.Proofs.Ytlbbgocggifjaaa
open Go.ChangeShapes Go.WideShapes Go.ChangeAt Go.RowKit Go.Joins Go.Deep

theorem objectDoes_k1 : (Rows.objectDoesRow.wf (OpenSpec.ofChange Rows.objectDoesSpec)) = true := by kernel_rfl
theorem objectDoes_k2 : (laidOutB Try.pinned.checked.prog) = true := by kernel_rfl
theorem objectDoes_k3 : (mapsRowed Try.pinned.checked.prog) = true := by kernel_rfl
theorem objectDoes_k4 : (Try.f19.params.all (Try.pinned.checked.prog.readableRec ·)) = true := by kernel_rfl
theorem objectDoes_k5 : (namedTie Try.pinned.checked.prog Rows.objectDoesRow.named Rows.objectDoesSpec.vars) = true := by kernel_rfl
theorem objectDoes_k6 : ((Rows.objectDoesRow.stops == [])) = true := by kernel_rfl
theorem objectDoes_k7 : ((Try.pinned.checked.prog.stops == [])) = true := by kernel_rfl
theorem objectDoes_k8 : ((Rows.objectDoesRow.knobs == [])) = true := by kernel_rfl
theorem objectDoes_k9 : ((Try.pinned.checked.prog.stopKnobs == [])) = true := by kernel_rfl
theorem objectDoes_k10 : ((Rows.objectDoesRow.inPlace == Try.pinned.checked.prog.inPlace 19)) = true := by kernel_rfl
theorem objectDoes_k11 : ((Rows.objectDoesRow.unfollowed == Try.pinned.checked.prog.unfollowed 19)) = true := by kernel_rfl
theorem objectDoes_k12 : ((Rows.objectDoesRow.recurses == Try.pinned.checked.prog.recurses 19)) = true := by kernel_rfl
theorem objectDoes_k13 : ((Rows.objectDoesRow.named == Try.pinned.checked.prog.varsNamed 19)) = true := by kernel_rfl
theorem objectDoes_k14 : ((Rows.objectDoesRow.maps == (Try.f19.params.toList ++ Rows.objectDoesSpec.plain.varTypes Try.pinned.checked.prog).any (Try.pinned.checked.prog.mapsRec ·))) = true := by kernel_rfl
theorem objectDoes_k15 : ((Rows.objectDoesRow.ifaces == (Try.f19.params.toList ++ Rows.objectDoesSpec.plain.varTypes Try.pinned.checked.prog).any (Try.pinned.checked.prog.ifacesRec ·))) = true := by kernel_rfl
theorem objectDoes_k16 : ((Rows.objectDoesRow.mapsOut == Try.pinned.checked.prog.mapsAmong Try.f19.resultTypes.toList)) = true := by kernel_rfl
theorem objectDoes_k17 : ((Rows.objectDoesRow.loops == (Try.f19.params.toList ++ Rows.objectDoesSpec.plain.varTypes Try.pinned.checked.prog).any (Try.pinned.checked.prog.loopsFrom ·))) = true := by kernel_rfl
theorem objectDoes_k18 : ((Rows.objectDoesRow.wideKeys == (Try.f19.params.toList ++ Rows.objectDoesSpec.plain.varTypes Try.pinned.checked.prog ++ Try.f19.resultTypes.toList).any (Try.pinned.checked.prog.wideKeysFrom ·))) = true := by kernel_rfl
theorem objectDoes_k19 : (Rows.objectDoesSpec.vars.all (Try.pinned.checked.prog.varReadable ·)) = true := by kernel_rfl
theorem objectDoes_k20 : (Try.f19.resultTypes.all (fun t => Try.pinned.checked.prog.readableRec t && decide (t < Try.pinned.checked.prog.types.size))) = true := by kernel_rfl
theorem objectDoes_k21 : ((Rows.objectDoesRow.ifacesOut == Try.f19.resultTypes.toList.any (Try.pinned.checked.prog.ifacesRec ·))) = true := by kernel_rfl
theorem objectDoes_k22 : ((Rows.objectDoesRow.loopsOut == Try.f19.resultTypes.toList.any (Try.pinned.checked.prog.loopsFrom ·))) = true := by kernel_rfl
theorem objectDoes_k23 : ((Rows.objectDoesRow.plainKeys == Try.pinned.checked.prog.plainKeys)) = true := by kernel_rfl
theorem objectDoes_k24 : (Rows.objectDoesRow.shortTexts.isNone) = true := by kernel_rfl
theorem objectDoes_k25 : (Try.pinned.checked.prog.stopsHeard) = true := by kernel_rfl
theorem objectDoes_k26 : (Try.pinned.checked.prog.mayEnter) = true := by kernel_rfl
theorem objectDoes_k27 : ((Rows.objectDoesRow.lifted == Try.pinned.checked.prog.liftsFinal)) = true := by kernel_rfl
theorem objectDoes_k28 : ((Try.pinned.checked.prog.make == some Rows.objectDoesRow.make)) = true := by kernel_rfl
theorem objectDoes_k29 : ((Rows.objectDoesRow.kinds == (if Rows.objectDoesRow.domain.isEmpty then [] else Try.f19.params.toList.map fun t => match Try.pinned.checked.prog.underlying t with | some (.int k) => some k | _ => none))) = true := by kernel_rfl
theorem objectDoes_k30 : ((Rows.objectDoesRow.pinned == Rows.objectDoesRow.pinnedBy)) = true := by kernel_rfl
theorem objectDoes_k31 : ((Rows.objectDoesRow.veiled == (Try.f19.params.toList ++ Rows.objectDoesSpec.plain.varTypes Try.pinned.checked.prog ++ Try.f19.resultTypes.toList).any (Try.pinned.checked.prog.veiledRec ·))) = true := by kernel_rfl
theorem objectDoes_k32 : (Rows.objectDoesRow.veiledFits Try.pinned.checked.prog Try.f19.params.toList (Try.f19.params.toList ++ Rows.objectDoesSpec.plain.varTypes Try.pinned.checked.prog ++ Try.f19.resultTypes.toList)) = true := by kernel_rfl
set_option maxRecDepth 100000 in
theorem objectDoes_facts : joinedFacts Try.pinned.checked.prog 19 Try.f19 Rows.objectDoesSpec Rows.objectDoesRow = true := by
  simp only [joinedFacts, Bool.and_eq_true]
  exact ⟨⟨⟨⟨⟨⟨⟨⟨⟨⟨⟨⟨⟨⟨⟨⟨⟨⟨⟨⟨⟨⟨⟨⟨⟨⟨⟨⟨⟨⟨⟨objectDoes_k1, objectDoes_k2⟩, objectDoes_k3⟩, objectDoes_k4⟩, objectDoes_k5⟩, objectDoes_k6⟩, objectDoes_k7⟩, objectDoes_k8⟩, objectDoes_k9⟩, objectDoes_k10⟩, objectDoes_k11⟩, objectDoes_k12⟩, objectDoes_k13⟩, objectDoes_k14⟩, objectDoes_k15⟩, objectDoes_k16⟩, objectDoes_k17⟩, objectDoes_k18⟩, objectDoes_k19⟩, objectDoes_k20⟩, objectDoes_k21⟩, objectDoes_k22⟩, objectDoes_k23⟩, objectDoes_k24⟩, objectDoes_k25⟩, objectDoes_k26⟩, objectDoes_k27⟩, objectDoes_k28⟩, objectDoes_k29⟩, objectDoes_k30⟩, objectDoes_k31⟩, objectDoes_k32⟩
end Go.Proofs.Ytlbbgocggifjaaa
