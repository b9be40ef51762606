/-
  No cell of these rows narrows 'for every input' (looked for: loops, veiled, ifaces, maps, wideKeys, modest, calm, conditions, laid).
  DERIVED. THE GIVEN ROWS OF THIS SEAT. 18 by the template 'for every input the law returns true; each argument reads behind the call as it read before'; 0 by the template 'total and deterministic' (their statements: YtnaceobbbfbhhaaTotals.lean).
  GIVEN WITH THE SEED: the statements are not yours to turn. If you find one false, say at which input.
  Laid BY PROGRAM, IN A SANDBOX (cutbox-rows.mjs): the forced cells as the released guide's own fill.sh prints them over the translation d4c94c782731e777… (all of the seat's roots in one cut). By AI agents, Wed Nov 11 2026. No macro, syntax, notation, axiom, sorry.
-/
import Derived.Test.YtnaceobbbfbhhaaChecked
import GoSem.Claim
import GoSem.ClaimJoined
import GoSem.ClaimMapViews
import Derived.JoinedTies
import Derived.KernelRfl
namespace Go.Proofs.Ytnaceobbbfbhhaa
/- THE CELL 'sum', in the pinned program and in every row, IS THE sha256 OF THE DUMP (.gsa) THAT YtnaceobbbfbhhaaProg.lean LOADS. Nothing in Lean hashes anything: it is a label: what it is worth is what the hold of that sum in a sandbox is worth. -/
noncomputable def Try.pinned : Pinned := { name := "ytnaceobbbfbhhaa", sum := "d4c94c782731e777258fdfecb399acfe5b7d04a2415a3b7ce4ea76b55db00200", checked := Try.checked }
namespace Rows
def none {H : Type} : Left H := { results := [], args := [] }

/-- 'foolscaplaw21.ChangeApplies': WHATEVER THE INPUT: true; the input reads as it did. -/
def changeAppliesSpec : ChangeSpec := { name := "changeApplies", fn := fun _ => fun
  | [d1, d2] => { results := [.lit (.bool true)], args := [d1, d2] }
  | _ => none }
def changeAppliesRow : OpenClaim := { program := "ytnaceobbbfbhhaa", sum := "d4c94c782731e777258fdfecb399acfe5b7d04a2415a3b7ce4ea76b55db00200", func := "foolscap/foolscaplaw21.ChangeApplies", spec := "changeApplies", unfollowed := true, recurses := true, apart := false }
def ChangeAppliesSaid : Prop := changeAppliesRow.holds Try.pinned (OpenSpec.ofChange changeAppliesSpec)

/-- ITS FALSE NEIGHBOUR: 'it returns false'. Refute it at one input. -/
def changeAppliesWrong : ChangeSpec := { name := "changeApplies", fn := fun _ => fun
  | [d1, d2] => { results := [.lit (.bool false)], args := [d1, d2] }
  | _ => none }
def ChangeAppliesWrongFalsely : Prop := changeAppliesRow.holds Try.pinned (OpenSpec.ofChange changeAppliesWrong)

/-- 'foolscaplaw21.ChangeBack': WHATEVER THE INPUT: true; the input reads as it did. -/
def changeBackSpec : ChangeSpec := { name := "changeBack", fn := fun _ => fun
  | [d1, d2] => { results := [.lit (.bool true)], args := [d1, d2] }
  | _ => none }
def changeBackRow : OpenClaim := { program := "ytnaceobbbfbhhaa", sum := "d4c94c782731e777258fdfecb399acfe5b7d04a2415a3b7ce4ea76b55db00200", func := "foolscap/foolscaplaw21.ChangeBack", spec := "changeBack", unfollowed := true, recurses := true, apart := false }
def ChangeBackSaid : Prop := changeBackRow.holds Try.pinned (OpenSpec.ofChange changeBackSpec)

/-- ITS FALSE NEIGHBOUR: 'it returns false'. Refute it at one input. -/
def changeBackWrong : ChangeSpec := { name := "changeBack", fn := fun _ => fun
  | [d1, d2] => { results := [.lit (.bool false)], args := [d1, d2] }
  | _ => none }
def ChangeBackWrongFalsely : Prop := changeBackRow.holds Try.pinned (OpenSpec.ofChange changeBackWrong)

/-- 'foolscaplaw21.ChangeRefuses': WHATEVER THE INPUT: true; the input reads as it did. -/
def changeRefusesSpec : ChangeSpec := { name := "changeRefuses", fn := fun _ => fun
  | [d1, d2, d3, d4, d5] => { results := [.lit (.bool true)], args := [d1, d2, d3, d4, d5] }
  | _ => none }
def changeRefusesRow : OpenClaim := { program := "ytnaceobbbfbhhaa", sum := "d4c94c782731e777258fdfecb399acfe5b7d04a2415a3b7ce4ea76b55db00200", func := "foolscap/foolscaplaw21.ChangeRefuses", spec := "changeRefuses", unfollowed := true, recurses := true, apart := false }
def ChangeRefusesSaid : Prop := changeRefusesRow.holds Try.pinned (OpenSpec.ofChange changeRefusesSpec)

/-- ITS FALSE NEIGHBOUR: 'it returns false'. Refute it at one input. -/
def changeRefusesWrong : ChangeSpec := { name := "changeRefuses", fn := fun _ => fun
  | [d1, d2, d3, d4, d5] => { results := [.lit (.bool false)], args := [d1, d2, d3, d4, d5] }
  | _ => none }
def ChangeRefusesWrongFalsely : Prop := changeRefusesRow.holds Try.pinned (OpenSpec.ofChange changeRefusesWrong)

/-- 'foolscaplaw12.FindAll': WHATEVER THE INPUT: true; the input reads as it did. -/
def findAllSpec : ChangeSpec := { name := "findAll", fn := fun _ => fun
  | [d1, d2, d3, d4, d5, d6] => { results := [.lit (.bool true)], args := [d1, d2, d3, d4, d5, d6] }
  | _ => none }
def findAllRow : OpenClaim := { program := "ytnaceobbbfbhhaa", sum := "d4c94c782731e777258fdfecb399acfe5b7d04a2415a3b7ce4ea76b55db00200", func := "foolscap/foolscaplaw12.FindAll", spec := "findAll", unfollowed := true, recurses := true, apart := false }
def FindAllSaid : Prop := findAllRow.holds Try.pinned (OpenSpec.ofChange findAllSpec)

/-- ITS FALSE NEIGHBOUR: 'it returns false'. Refute it at one input. -/
def findAllWrong : ChangeSpec := { name := "findAll", fn := fun _ => fun
  | [d1, d2, d3, d4, d5, d6] => { results := [.lit (.bool false)], args := [d1, d2, d3, d4, d5, d6] }
  | _ => none }
def FindAllWrongFalsely : Prop := findAllRow.holds Try.pinned (OpenSpec.ofChange findAllWrong)

/-- 'foolscaplaw12.FindSearch': WHATEVER THE INPUT: true; the input reads as it did. -/
def findSearchSpec : ChangeSpec := { name := "findSearch", fn := fun _ => fun
  | [d1, d2, d3, d4, d5, d6, d7, d8] => { results := [.lit (.bool true)], args := [d1, d2, d3, d4, d5, d6, d7, d8] }
  | _ => none }
def findSearchRow : OpenClaim := { program := "ytnaceobbbfbhhaa", sum := "d4c94c782731e777258fdfecb399acfe5b7d04a2415a3b7ce4ea76b55db00200", func := "foolscap/foolscaplaw12.FindSearch", spec := "findSearch", unfollowed := true, recurses := true, apart := false }
def FindSearchSaid : Prop := findSearchRow.holds Try.pinned (OpenSpec.ofChange findSearchSpec)

/-- ITS FALSE NEIGHBOUR: 'it returns false'. Refute it at one input. -/
def findSearchWrong : ChangeSpec := { name := "findSearch", fn := fun _ => fun
  | [d1, d2, d3, d4, d5, d6, d7, d8] => { results := [.lit (.bool false)], args := [d1, d2, d3, d4, d5, d6, d7, d8] }
  | _ => none }
def FindSearchWrongFalsely : Prop := findSearchRow.holds Try.pinned (OpenSpec.ofChange findSearchWrong)

/-- 'foolscaplaw12.FindRound': WHATEVER THE INPUT: true; the input reads as it did. -/
def findRoundSpec : ChangeSpec := { name := "findRound", fn := fun _ => fun
  | [d1, d2, d3, d4] => { results := [.lit (.bool true)], args := [d1, d2, d3, d4] }
  | _ => none }
def findRoundRow : OpenClaim := { program := "ytnaceobbbfbhhaa", sum := "d4c94c782731e777258fdfecb399acfe5b7d04a2415a3b7ce4ea76b55db00200", func := "foolscap/foolscaplaw12.FindRound", spec := "findRound", unfollowed := true, recurses := true, apart := false }
def FindRoundSaid : Prop := findRoundRow.holds Try.pinned (OpenSpec.ofChange findRoundSpec)

/-- ITS FALSE NEIGHBOUR: 'it returns false'. Refute it at one input. -/
def findRoundWrong : ChangeSpec := { name := "findRound", fn := fun _ => fun
  | [d1, d2, d3, d4] => { results := [.lit (.bool false)], args := [d1, d2, d3, d4] }
  | _ => none }
def FindRoundWrongFalsely : Prop := findRoundRow.holds Try.pinned (OpenSpec.ofChange findRoundWrong)

/-- 'foolscaplaw12.FindWord': WHATEVER THE INPUT: true; the input reads as it did. -/
def findWordSpec : ChangeSpec := { name := "findWord", fn := fun _ => fun
  | [d1, d2, d3, d4] => { results := [.lit (.bool true)], args := [d1, d2, d3, d4] }
  | _ => none }
def findWordRow : OpenClaim := { program := "ytnaceobbbfbhhaa", sum := "d4c94c782731e777258fdfecb399acfe5b7d04a2415a3b7ce4ea76b55db00200", func := "foolscap/foolscaplaw12.FindWord", spec := "findWord", unfollowed := true, recurses := true, apart := false }
def FindWordSaid : Prop := findWordRow.holds Try.pinned (OpenSpec.ofChange findWordSpec)

/-- ITS FALSE NEIGHBOUR: 'it returns false'. Refute it at one input. -/
def findWordWrong : ChangeSpec := { name := "findWord", fn := fun _ => fun
  | [d1, d2, d3, d4] => { results := [.lit (.bool false)], args := [d1, d2, d3, d4] }
  | _ => none }
def FindWordWrongFalsely : Prop := findWordRow.holds Try.pinned (OpenSpec.ofChange findWordWrong)

/-- 'foolscaplaw12.FindEach': WHATEVER THE INPUT: true; the input reads as it did. -/
def findEachSpec : ChangeSpec := { name := "findEach", fn := fun _ => fun
  | [d1, d2, d3, d4] => { results := [.lit (.bool true)], args := [d1, d2, d3, d4] }
  | _ => none }
def findEachRow : OpenClaim := { program := "ytnaceobbbfbhhaa", sum := "d4c94c782731e777258fdfecb399acfe5b7d04a2415a3b7ce4ea76b55db00200", func := "foolscap/foolscaplaw12.FindEach", spec := "findEach", unfollowed := true, recurses := true, apart := false }
def FindEachSaid : Prop := findEachRow.holds Try.pinned (OpenSpec.ofChange findEachSpec)

/-- ITS FALSE NEIGHBOUR: 'it returns false'. Refute it at one input. -/
def findEachWrong : ChangeSpec := { name := "findEach", fn := fun _ => fun
  | [d1, d2, d3, d4] => { results := [.lit (.bool false)], args := [d1, d2, d3, d4] }
  | _ => none }
def FindEachWrongFalsely : Prop := findEachRow.holds Try.pinned (OpenSpec.ofChange findEachWrong)

/-- 'foolscaplaw12.FindWords': WHATEVER THE INPUT: true; the input reads as it did. -/
def findWordsSpec : ChangeSpec := { name := "findWords", fn := fun _ => fun
  | [d1, d2, d3] => { results := [.lit (.bool true)], args := [d1, d2, d3] }
  | _ => none }
def findWordsRow : OpenClaim := { program := "ytnaceobbbfbhhaa", sum := "d4c94c782731e777258fdfecb399acfe5b7d04a2415a3b7ce4ea76b55db00200", func := "foolscap/foolscaplaw12.FindWords", spec := "findWords", unfollowed := true, recurses := true, apart := false }
def FindWordsSaid : Prop := findWordsRow.holds Try.pinned (OpenSpec.ofChange findWordsSpec)

/-- ITS FALSE NEIGHBOUR: 'it returns false'. Refute it at one input. -/
def findWordsWrong : ChangeSpec := { name := "findWords", fn := fun _ => fun
  | [d1, d2, d3] => { results := [.lit (.bool false)], args := [d1, d2, d3] }
  | _ => none }
def FindWordsWrongFalsely : Prop := findWordsRow.holds Try.pinned (OpenSpec.ofChange findWordsWrong)

/-- 'foolscaplaw10.ParaMove': WHATEVER THE INPUT: true; the input reads as it did. -/
def paraMoveSpec : ChangeSpec := { name := "paraMove", fn := fun _ => fun
  | [d1, d2, d3, d4, d5, d6] => { results := [.lit (.bool true)], args := [d1, d2, d3, d4, d5, d6] }
  | _ => none }
def paraMoveRow : OpenClaim := { program := "ytnaceobbbfbhhaa", sum := "d4c94c782731e777258fdfecb399acfe5b7d04a2415a3b7ce4ea76b55db00200", func := "foolscap/foolscaplaw10.ParaMove", spec := "paraMove", unfollowed := true, recurses := true, apart := false }
def ParaMoveSaid : Prop := paraMoveRow.holds Try.pinned (OpenSpec.ofChange paraMoveSpec)

/-- ITS FALSE NEIGHBOUR: 'it returns false'. Refute it at one input. -/
def paraMoveWrong : ChangeSpec := { name := "paraMove", fn := fun _ => fun
  | [d1, d2, d3, d4, d5, d6] => { results := [.lit (.bool false)], args := [d1, d2, d3, d4, d5, d6] }
  | _ => none }
def ParaMoveWrongFalsely : Prop := paraMoveRow.holds Try.pinned (OpenSpec.ofChange paraMoveWrong)

/-- 'foolscaplaw10.ParaSentences': WHATEVER THE INPUT: true; the input reads as it did. -/
def paraSentencesSpec : ChangeSpec := { name := "paraSentences", fn := fun _ => fun
  | [d1, d2] => { results := [.lit (.bool true)], args := [d1, d2] }
  | _ => none }
def paraSentencesRow : OpenClaim := { program := "ytnaceobbbfbhhaa", sum := "d4c94c782731e777258fdfecb399acfe5b7d04a2415a3b7ce4ea76b55db00200", func := "foolscap/foolscaplaw10.ParaSentences", spec := "paraSentences", unfollowed := true, recurses := true, apart := false }
def ParaSentencesSaid : Prop := paraSentencesRow.holds Try.pinned (OpenSpec.ofChange paraSentencesSpec)

/-- ITS FALSE NEIGHBOUR: 'it returns false'. Refute it at one input. -/
def paraSentencesWrong : ChangeSpec := { name := "paraSentences", fn := fun _ => fun
  | [d1, d2] => { results := [.lit (.bool false)], args := [d1, d2] }
  | _ => none }
def ParaSentencesWrongFalsely : Prop := paraSentencesRow.holds Try.pinned (OpenSpec.ofChange paraSentencesWrong)

/-- 'foolscaplaw10.ParaSteps': WHATEVER THE INPUT: true; the input reads as it did. -/
def paraStepsSpec : ChangeSpec := { name := "paraSteps", fn := fun _ => fun
  | [d1, d2, d3, d4, d5, d6] => { results := [.lit (.bool true)], args := [d1, d2, d3, d4, d5, d6] }
  | _ => none }
def paraStepsRow : OpenClaim := { program := "ytnaceobbbfbhhaa", sum := "d4c94c782731e777258fdfecb399acfe5b7d04a2415a3b7ce4ea76b55db00200", func := "foolscap/foolscaplaw10.ParaSteps", spec := "paraSteps", unfollowed := true, recurses := true, apart := false }
def ParaStepsSaid : Prop := paraStepsRow.holds Try.pinned (OpenSpec.ofChange paraStepsSpec)

/-- ITS FALSE NEIGHBOUR: 'it returns false'. Refute it at one input. -/
def paraStepsWrong : ChangeSpec := { name := "paraSteps", fn := fun _ => fun
  | [d1, d2, d3, d4, d5, d6] => { results := [.lit (.bool false)], args := [d1, d2, d3, d4, d5, d6] }
  | _ => none }
def ParaStepsWrongFalsely : Prop := paraStepsRow.holds Try.pinned (OpenSpec.ofChange paraStepsWrong)

/-- 'foolscaplaw10.ParaEmpty': WHATEVER THE INPUT: true; the input reads as it did. -/
def paraEmptySpec : ChangeSpec := { name := "paraEmpty", fn := fun _ => fun
  | [d1, d2] => { results := [.lit (.bool true)], args := [d1, d2] }
  | _ => none }
def paraEmptyRow : OpenClaim := { program := "ytnaceobbbfbhhaa", sum := "d4c94c782731e777258fdfecb399acfe5b7d04a2415a3b7ce4ea76b55db00200", func := "foolscap/foolscaplaw10.ParaEmpty", spec := "paraEmpty", unfollowed := true, recurses := true, apart := false }
def ParaEmptySaid : Prop := paraEmptyRow.holds Try.pinned (OpenSpec.ofChange paraEmptySpec)

/-- ITS FALSE NEIGHBOUR: 'it returns false'. Refute it at one input. -/
def paraEmptyWrong : ChangeSpec := { name := "paraEmpty", fn := fun _ => fun
  | [d1, d2] => { results := [.lit (.bool false)], args := [d1, d2] }
  | _ => none }
def ParaEmptyWrongFalsely : Prop := paraEmptyRow.holds Try.pinned (OpenSpec.ofChange paraEmptyWrong)

/-- 'foolscaplaw10.SentOrder': WHATEVER THE INPUT: true; the input reads as it did. -/
def sentOrderSpec : ChangeSpec := { name := "sentOrder", fn := fun _ => fun
  | [d] => { results := [.lit (.bool true)], args := [d] }
  | _ => none }
def sentOrderRow : OpenClaim := { program := "ytnaceobbbfbhhaa", sum := "d4c94c782731e777258fdfecb399acfe5b7d04a2415a3b7ce4ea76b55db00200", func := "foolscap/foolscaplaw10.SentOrder", spec := "sentOrder", unfollowed := true, recurses := true, apart := false }
def SentOrderSaid : Prop := sentOrderRow.holds Try.pinned (OpenSpec.ofChange sentOrderSpec)

/-- ITS FALSE NEIGHBOUR: 'it returns false'. Refute it at one input. -/
def sentOrderWrong : ChangeSpec := { name := "sentOrder", fn := fun _ => fun
  | [d] => { results := [.lit (.bool false)], args := [d] }
  | _ => none }
def SentOrderWrongFalsely : Prop := sentOrderRow.holds Try.pinned (OpenSpec.ofChange sentOrderWrong)

/-- 'foolscaplaw18.ParaBlocks': WHATEVER THE INPUT: true; the input reads as it did. -/
def paraBlocksSpec : ChangeSpec := { name := "paraBlocks", fn := fun _ => fun
  | [d1, d2] => { results := [.lit (.bool true)], args := [d1, d2] }
  | _ => none }
def paraBlocksRow : OpenClaim := { program := "ytnaceobbbfbhhaa", sum := "d4c94c782731e777258fdfecb399acfe5b7d04a2415a3b7ce4ea76b55db00200", func := "foolscap/foolscaplaw18.ParaBlocks", spec := "paraBlocks", unfollowed := true, recurses := true, apart := false }
def ParaBlocksSaid : Prop := paraBlocksRow.holds Try.pinned (OpenSpec.ofChange paraBlocksSpec)

/-- ITS FALSE NEIGHBOUR: 'it returns false'. Refute it at one input. -/
def paraBlocksWrong : ChangeSpec := { name := "paraBlocks", fn := fun _ => fun
  | [d1, d2] => { results := [.lit (.bool false)], args := [d1, d2] }
  | _ => none }
def ParaBlocksWrongFalsely : Prop := paraBlocksRow.holds Try.pinned (OpenSpec.ofChange paraBlocksWrong)

/-- 'foolscaplaw18.ParaObjects': WHATEVER THE INPUT: true; the input reads as it did. -/
def paraObjectsSpec : ChangeSpec := { name := "paraObjects", fn := fun _ => fun
  | [d1, d2, d3, d4, d5] => { results := [.lit (.bool true)], args := [d1, d2, d3, d4, d5] }
  | _ => none }
def paraObjectsRow : OpenClaim := { program := "ytnaceobbbfbhhaa", sum := "d4c94c782731e777258fdfecb399acfe5b7d04a2415a3b7ce4ea76b55db00200", func := "foolscap/foolscaplaw18.ParaObjects", spec := "paraObjects", unfollowed := true, recurses := true, apart := false }
def ParaObjectsSaid : Prop := paraObjectsRow.holds Try.pinned (OpenSpec.ofChange paraObjectsSpec)

/-- ITS FALSE NEIGHBOUR: 'it returns false'. Refute it at one input. -/
def paraObjectsWrong : ChangeSpec := { name := "paraObjects", fn := fun _ => fun
  | [d1, d2, d3, d4, d5] => { results := [.lit (.bool false)], args := [d1, d2, d3, d4, d5] }
  | _ => none }
def ParaObjectsWrongFalsely : Prop := paraObjectsRow.holds Try.pinned (OpenSpec.ofChange paraObjectsWrong)

/-- 'foolscaplaw18.ParaCounts': WHATEVER THE INPUT: true; the input reads as it did. -/
def paraCountsSpec : ChangeSpec := { name := "paraCounts", fn := fun _ => fun
  | [d1, d2, d3] => { results := [.lit (.bool true)], args := [d1, d2, d3] }
  | _ => none }
def paraCountsRow : OpenClaim := { program := "ytnaceobbbfbhhaa", sum := "d4c94c782731e777258fdfecb399acfe5b7d04a2415a3b7ce4ea76b55db00200", func := "foolscap/foolscaplaw18.ParaCounts", spec := "paraCounts", unfollowed := true, recurses := true, apart := false }
def ParaCountsSaid : Prop := paraCountsRow.holds Try.pinned (OpenSpec.ofChange paraCountsSpec)

/-- ITS FALSE NEIGHBOUR: 'it returns false'. Refute it at one input. -/
def paraCountsWrong : ChangeSpec := { name := "paraCounts", fn := fun _ => fun
  | [d1, d2, d3] => { results := [.lit (.bool false)], args := [d1, d2, d3] }
  | _ => none }
def ParaCountsWrongFalsely : Prop := paraCountsRow.holds Try.pinned (OpenSpec.ofChange paraCountsWrong)

/-- 'foolscaplaw18.ParaSentence': WHATEVER THE INPUT: true; the input reads as it did. -/
def paraSentenceSpec : ChangeSpec := { name := "paraSentence", fn := fun _ => fun
  | [d1, d2, d3] => { results := [.lit (.bool true)], args := [d1, d2, d3] }
  | _ => none }
def paraSentenceRow : OpenClaim := { program := "ytnaceobbbfbhhaa", sum := "d4c94c782731e777258fdfecb399acfe5b7d04a2415a3b7ce4ea76b55db00200", func := "foolscap/foolscaplaw18.ParaSentence", spec := "paraSentence", unfollowed := true, recurses := true, apart := false }
def ParaSentenceSaid : Prop := paraSentenceRow.holds Try.pinned (OpenSpec.ofChange paraSentenceSpec)

/-- ITS FALSE NEIGHBOUR: 'it returns false'. Refute it at one input. -/
def paraSentenceWrong : ChangeSpec := { name := "paraSentence", fn := fun _ => fun
  | [d1, d2, d3] => { results := [.lit (.bool false)], args := [d1, d2, d3] }
  | _ => none }
def ParaSentenceWrongFalsely : Prop := paraSentenceRow.holds Try.pinned (OpenSpec.ofChange paraSentenceWrong)

/- THE SECOND FORM. 'bulk': how many values and letters a reading holds, each counted each time it is reached (what is shared counts as often as it is met; a slice's spare places count too). A statement '..UptoSaid' is the law's where the arguments, and the package variables that the reading takes, are together of bulk at most 1048576: NARROWER than '..Said'. Prove '..Said' where nothing that the law and all that it calls make is longer than what came in: it says more and counts as full. Else prove '..UptoSaid'. A law counts once. -/
mutual
def uptoBulk {H : Type} : DataW H → Nat
  | .lit (.string bytes) => bytes.length + 1
  | .lit _ => 1
  | .nil => 1
  | .ptr d => uptoBulk d + 1
  | .slice elems spare => uptoBulkAll elems + uptoBulkAll spare + 1
  | .agg parts => uptoBulkAll parts + 1
  | .iface _ d => uptoBulk d + 1
  | .map entries => uptoBulkEntries entries + 1
  | .held _ => 1
def uptoBulkAll {H : Type} : List (DataW H) → Nat
  | [] => 0
  | d :: r => uptoBulk d + uptoBulkAll r
def uptoBulkEntries {H : Type} : List (Lit × DataW H) → Nat
  | [] => 0
  | x :: r => uptoBulkEntry x + uptoBulkEntries r
def uptoBulkEntry {H : Type} : Lit × DataW H → Nat
  | (.string bytes, d) => bytes.length + uptoBulk d + 1
  | (_, d) => uptoBulk d + 1
 end
def uptoSmall : (H : Type) → List (DataW H) → Bool := fun _ ds => decide (uptoBulkAll ds ≤ 1048576)
def OpenSpec.upto (s : _root_.Go.ChangeSpec) : _root_.Go.OpenSpec := { _root_.Go.OpenSpec.ofChange s with cond := some uptoSmall }

/-- 'foolscaplaw21.ChangeApplies', WHERE WHAT IT READS IS OF BULK AT MOST 1048576: true; the input reads as it did. -/
def changeAppliesUptoRow : OpenClaim := { program := "ytnaceobbbfbhhaa", sum := "d4c94c782731e777258fdfecb399acfe5b7d04a2415a3b7ce4ea76b55db00200", func := "foolscap/foolscaplaw21.ChangeApplies", spec := "changeApplies", unfollowed := true, recurses := true, apart := false, narrowed := true }
def ChangeAppliesUptoSaid : Prop := changeAppliesUptoRow.holds Try.pinned (OpenSpec.upto changeAppliesSpec)

/-- 'foolscaplaw21.ChangeBack', WHERE WHAT IT READS IS OF BULK AT MOST 1048576: true; the input reads as it did. -/
def changeBackUptoRow : OpenClaim := { program := "ytnaceobbbfbhhaa", sum := "d4c94c782731e777258fdfecb399acfe5b7d04a2415a3b7ce4ea76b55db00200", func := "foolscap/foolscaplaw21.ChangeBack", spec := "changeBack", unfollowed := true, recurses := true, apart := false, narrowed := true }
def ChangeBackUptoSaid : Prop := changeBackUptoRow.holds Try.pinned (OpenSpec.upto changeBackSpec)

/-- 'foolscaplaw21.ChangeRefuses', WHERE WHAT IT READS IS OF BULK AT MOST 1048576: true; the input reads as it did. -/
def changeRefusesUptoRow : OpenClaim := { program := "ytnaceobbbfbhhaa", sum := "d4c94c782731e777258fdfecb399acfe5b7d04a2415a3b7ce4ea76b55db00200", func := "foolscap/foolscaplaw21.ChangeRefuses", spec := "changeRefuses", unfollowed := true, recurses := true, apart := false, narrowed := true }
def ChangeRefusesUptoSaid : Prop := changeRefusesUptoRow.holds Try.pinned (OpenSpec.upto changeRefusesSpec)

/-- 'foolscaplaw12.FindAll', WHERE WHAT IT READS IS OF BULK AT MOST 1048576: true; the input reads as it did. -/
def findAllUptoRow : OpenClaim := { program := "ytnaceobbbfbhhaa", sum := "d4c94c782731e777258fdfecb399acfe5b7d04a2415a3b7ce4ea76b55db00200", func := "foolscap/foolscaplaw12.FindAll", spec := "findAll", unfollowed := true, recurses := true, apart := false, narrowed := true }
def FindAllUptoSaid : Prop := findAllUptoRow.holds Try.pinned (OpenSpec.upto findAllSpec)

/-- 'foolscaplaw12.FindSearch', WHERE WHAT IT READS IS OF BULK AT MOST 1048576: true; the input reads as it did. -/
def findSearchUptoRow : OpenClaim := { program := "ytnaceobbbfbhhaa", sum := "d4c94c782731e777258fdfecb399acfe5b7d04a2415a3b7ce4ea76b55db00200", func := "foolscap/foolscaplaw12.FindSearch", spec := "findSearch", unfollowed := true, recurses := true, apart := false, narrowed := true }
def FindSearchUptoSaid : Prop := findSearchUptoRow.holds Try.pinned (OpenSpec.upto findSearchSpec)

/-- 'foolscaplaw12.FindRound', WHERE WHAT IT READS IS OF BULK AT MOST 1048576: true; the input reads as it did. -/
def findRoundUptoRow : OpenClaim := { program := "ytnaceobbbfbhhaa", sum := "d4c94c782731e777258fdfecb399acfe5b7d04a2415a3b7ce4ea76b55db00200", func := "foolscap/foolscaplaw12.FindRound", spec := "findRound", unfollowed := true, recurses := true, apart := false, narrowed := true }
def FindRoundUptoSaid : Prop := findRoundUptoRow.holds Try.pinned (OpenSpec.upto findRoundSpec)

/-- 'foolscaplaw12.FindWord', WHERE WHAT IT READS IS OF BULK AT MOST 1048576: true; the input reads as it did. -/
def findWordUptoRow : OpenClaim := { program := "ytnaceobbbfbhhaa", sum := "d4c94c782731e777258fdfecb399acfe5b7d04a2415a3b7ce4ea76b55db00200", func := "foolscap/foolscaplaw12.FindWord", spec := "findWord", unfollowed := true, recurses := true, apart := false, narrowed := true }
def FindWordUptoSaid : Prop := findWordUptoRow.holds Try.pinned (OpenSpec.upto findWordSpec)

/-- 'foolscaplaw12.FindEach', WHERE WHAT IT READS IS OF BULK AT MOST 1048576: true; the input reads as it did. -/
def findEachUptoRow : OpenClaim := { program := "ytnaceobbbfbhhaa", sum := "d4c94c782731e777258fdfecb399acfe5b7d04a2415a3b7ce4ea76b55db00200", func := "foolscap/foolscaplaw12.FindEach", spec := "findEach", unfollowed := true, recurses := true, apart := false, narrowed := true }
def FindEachUptoSaid : Prop := findEachUptoRow.holds Try.pinned (OpenSpec.upto findEachSpec)

/-- 'foolscaplaw12.FindWords', WHERE WHAT IT READS IS OF BULK AT MOST 1048576: true; the input reads as it did. -/
def findWordsUptoRow : OpenClaim := { program := "ytnaceobbbfbhhaa", sum := "d4c94c782731e777258fdfecb399acfe5b7d04a2415a3b7ce4ea76b55db00200", func := "foolscap/foolscaplaw12.FindWords", spec := "findWords", unfollowed := true, recurses := true, apart := false, narrowed := true }
def FindWordsUptoSaid : Prop := findWordsUptoRow.holds Try.pinned (OpenSpec.upto findWordsSpec)

/-- 'foolscaplaw10.ParaMove', WHERE WHAT IT READS IS OF BULK AT MOST 1048576: true; the input reads as it did. -/
def paraMoveUptoRow : OpenClaim := { program := "ytnaceobbbfbhhaa", sum := "d4c94c782731e777258fdfecb399acfe5b7d04a2415a3b7ce4ea76b55db00200", func := "foolscap/foolscaplaw10.ParaMove", spec := "paraMove", unfollowed := true, recurses := true, apart := false, narrowed := true }
def ParaMoveUptoSaid : Prop := paraMoveUptoRow.holds Try.pinned (OpenSpec.upto paraMoveSpec)

/-- 'foolscaplaw10.ParaSentences', WHERE WHAT IT READS IS OF BULK AT MOST 1048576: true; the input reads as it did. -/
def paraSentencesUptoRow : OpenClaim := { program := "ytnaceobbbfbhhaa", sum := "d4c94c782731e777258fdfecb399acfe5b7d04a2415a3b7ce4ea76b55db00200", func := "foolscap/foolscaplaw10.ParaSentences", spec := "paraSentences", unfollowed := true, recurses := true, apart := false, narrowed := true }
def ParaSentencesUptoSaid : Prop := paraSentencesUptoRow.holds Try.pinned (OpenSpec.upto paraSentencesSpec)

/-- 'foolscaplaw10.ParaSteps', WHERE WHAT IT READS IS OF BULK AT MOST 1048576: true; the input reads as it did. -/
def paraStepsUptoRow : OpenClaim := { program := "ytnaceobbbfbhhaa", sum := "d4c94c782731e777258fdfecb399acfe5b7d04a2415a3b7ce4ea76b55db00200", func := "foolscap/foolscaplaw10.ParaSteps", spec := "paraSteps", unfollowed := true, recurses := true, apart := false, narrowed := true }
def ParaStepsUptoSaid : Prop := paraStepsUptoRow.holds Try.pinned (OpenSpec.upto paraStepsSpec)

/-- 'foolscaplaw10.ParaEmpty', WHERE WHAT IT READS IS OF BULK AT MOST 1048576: true; the input reads as it did. -/
def paraEmptyUptoRow : OpenClaim := { program := "ytnaceobbbfbhhaa", sum := "d4c94c782731e777258fdfecb399acfe5b7d04a2415a3b7ce4ea76b55db00200", func := "foolscap/foolscaplaw10.ParaEmpty", spec := "paraEmpty", unfollowed := true, recurses := true, apart := false, narrowed := true }
def ParaEmptyUptoSaid : Prop := paraEmptyUptoRow.holds Try.pinned (OpenSpec.upto paraEmptySpec)

/-- 'foolscaplaw10.SentOrder', WHERE WHAT IT READS IS OF BULK AT MOST 1048576: true; the input reads as it did. -/
def sentOrderUptoRow : OpenClaim := { program := "ytnaceobbbfbhhaa", sum := "d4c94c782731e777258fdfecb399acfe5b7d04a2415a3b7ce4ea76b55db00200", func := "foolscap/foolscaplaw10.SentOrder", spec := "sentOrder", unfollowed := true, recurses := true, apart := false, narrowed := true }
def SentOrderUptoSaid : Prop := sentOrderUptoRow.holds Try.pinned (OpenSpec.upto sentOrderSpec)

/-- 'foolscaplaw18.ParaBlocks', WHERE WHAT IT READS IS OF BULK AT MOST 1048576: true; the input reads as it did. -/
def paraBlocksUptoRow : OpenClaim := { program := "ytnaceobbbfbhhaa", sum := "d4c94c782731e777258fdfecb399acfe5b7d04a2415a3b7ce4ea76b55db00200", func := "foolscap/foolscaplaw18.ParaBlocks", spec := "paraBlocks", unfollowed := true, recurses := true, apart := false, narrowed := true }
def ParaBlocksUptoSaid : Prop := paraBlocksUptoRow.holds Try.pinned (OpenSpec.upto paraBlocksSpec)

/-- 'foolscaplaw18.ParaObjects', WHERE WHAT IT READS IS OF BULK AT MOST 1048576: true; the input reads as it did. -/
def paraObjectsUptoRow : OpenClaim := { program := "ytnaceobbbfbhhaa", sum := "d4c94c782731e777258fdfecb399acfe5b7d04a2415a3b7ce4ea76b55db00200", func := "foolscap/foolscaplaw18.ParaObjects", spec := "paraObjects", unfollowed := true, recurses := true, apart := false, narrowed := true }
def ParaObjectsUptoSaid : Prop := paraObjectsUptoRow.holds Try.pinned (OpenSpec.upto paraObjectsSpec)

/-- 'foolscaplaw18.ParaCounts', WHERE WHAT IT READS IS OF BULK AT MOST 1048576: true; the input reads as it did. -/
def paraCountsUptoRow : OpenClaim := { program := "ytnaceobbbfbhhaa", sum := "d4c94c782731e777258fdfecb399acfe5b7d04a2415a3b7ce4ea76b55db00200", func := "foolscap/foolscaplaw18.ParaCounts", spec := "paraCounts", unfollowed := true, recurses := true, apart := false, narrowed := true }
def ParaCountsUptoSaid : Prop := paraCountsUptoRow.holds Try.pinned (OpenSpec.upto paraCountsSpec)

/-- 'foolscaplaw18.ParaSentence', WHERE WHAT IT READS IS OF BULK AT MOST 1048576: true; the input reads as it did. -/
def paraSentenceUptoRow : OpenClaim := { program := "ytnaceobbbfbhhaa", sum := "d4c94c782731e777258fdfecb399acfe5b7d04a2415a3b7ce4ea76b55db00200", func := "foolscap/foolscaplaw18.ParaSentence", spec := "paraSentence", unfollowed := true, recurses := true, apart := false, narrowed := true }
def ParaSentenceUptoSaid : Prop := paraSentenceUptoRow.holds Try.pinned (OpenSpec.upto paraSentenceSpec)

end Rows
end Go.Proofs.Ytnaceobbbfbhhaa
