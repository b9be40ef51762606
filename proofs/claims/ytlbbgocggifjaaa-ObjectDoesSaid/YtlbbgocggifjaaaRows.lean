/-
  No cell of these rows narrows 'for every input' (looked for: loops, veiled, ifaces, maps, wideKeys, modest, calm, conditions, laid).
  DERIVED. THE GIVEN ROWS OF THIS SEAT. 18 by the template 'for every input the law returns true; each argument reads behind the call as it read before'; 0 by the template 'total and deterministic' (their statements: YtlbbgocggifjaaaTotals.lean).
  GIVEN WITH THE SEED: the statements are not yours to turn. If you find one false, say at which input.
  Laid BY PROGRAM, IN A SANDBOX (cutbox-rows.mjs): the forced cells as the released guide's own fill.sh prints them over the translation 16c4d78c5d0c57e0… (all of the seat's roots in one cut). By AI agents, Wed Nov 11 2026. No macro, syntax, notation, axiom, sorry.
-/
import Derived.Test.YtlbbgocggifjaaaChecked
import GoSem.Claim
import GoSem.ClaimJoined
import GoSem.ClaimMapViews
import Derived.JoinedTies
import Derived.KernelRfl
namespace Go.Proofs.Ytlbbgocggifjaaa
/- THE CELL 'sum', in the pinned program and in every row, IS THE sha256 OF THE DUMP (.gsa) THAT YtlbbgocggifjaaaProg.lean LOADS. Nothing in Lean hashes anything: it is a label: what it is worth is what the hold of that sum in a sandbox is worth. -/
noncomputable def Try.pinned : Pinned := { name := "ytlbbgocggifjaaa", sum := "16c4d78c5d0c57e0358a3c89c3b823f861bb91d891490c2368b8b167182d54c9", checked := Try.checked }
namespace Rows
def none {H : Type} : Left H := { results := [], args := [] }

/-- 'foolscaplaw6.SpanCells': WHATEVER THE INPUT: true; the input reads as it did. -/
def spanCellsSpec : ChangeSpec := { name := "spanCells", fn := fun _ => fun
  | [d1, d2] => { results := [.lit (.bool true)], args := [d1, d2] }
  | _ => none }
def spanCellsRow : OpenClaim := { program := "ytlbbgocggifjaaa", sum := "16c4d78c5d0c57e0358a3c89c3b823f861bb91d891490c2368b8b167182d54c9", func := "foolscap/foolscaplaw6.SpanCells", spec := "spanCells", unfollowed := true, recurses := true, apart := false }
def SpanCellsSaid : Prop := spanCellsRow.holds Try.pinned (OpenSpec.ofChange spanCellsSpec)

/-- ITS FALSE NEIGHBOUR: 'it returns false'. Refute it at one input. -/
def spanCellsWrong : ChangeSpec := { name := "spanCells", fn := fun _ => fun
  | [d1, d2] => { results := [.lit (.bool false)], args := [d1, d2] }
  | _ => none }
def SpanCellsWrongFalsely : Prop := spanCellsRow.holds Try.pinned (OpenSpec.ofChange spanCellsWrong)

/-- 'foolscaplaw16.QuotePairs': WHATEVER THE INPUT: true; the input reads as it did. -/
def quotePairsSpec : ChangeSpec := { name := "quotePairs", fn := fun _ => fun
  | [d1, d2, d3] => { results := [.lit (.bool true)], args := [d1, d2, d3] }
  | _ => none }
def quotePairsRow : OpenClaim := { program := "ytlbbgocggifjaaa", sum := "16c4d78c5d0c57e0358a3c89c3b823f861bb91d891490c2368b8b167182d54c9", func := "foolscap/foolscaplaw16.QuotePairs", spec := "quotePairs", unfollowed := true, recurses := true, apart := false }
def QuotePairsSaid : Prop := quotePairsRow.holds Try.pinned (OpenSpec.ofChange quotePairsSpec)

/-- ITS FALSE NEIGHBOUR: 'it returns false'. Refute it at one input. -/
def quotePairsWrong : ChangeSpec := { name := "quotePairs", fn := fun _ => fun
  | [d1, d2, d3] => { results := [.lit (.bool false)], args := [d1, d2, d3] }
  | _ => none }
def QuotePairsWrongFalsely : Prop := quotePairsRow.holds Try.pinned (OpenSpec.ofChange quotePairsWrong)

/-- 'foolscaplaw16.QuoteObjects': WHATEVER THE INPUT: true; the input reads as it did. -/
def quoteObjectsSpec : ChangeSpec := { name := "quoteObjects", fn := fun _ => fun
  | [d1, d2, d3, d4, d5] => { results := [.lit (.bool true)], args := [d1, d2, d3, d4, d5] }
  | _ => none }
def quoteObjectsRow : OpenClaim := { program := "ytlbbgocggifjaaa", sum := "16c4d78c5d0c57e0358a3c89c3b823f861bb91d891490c2368b8b167182d54c9", func := "foolscap/foolscaplaw16.QuoteObjects", spec := "quoteObjects", unfollowed := true, recurses := true, apart := false }
def QuoteObjectsSaid : Prop := quoteObjectsRow.holds Try.pinned (OpenSpec.ofChange quoteObjectsSpec)

/-- ITS FALSE NEIGHBOUR: 'it returns false'. Refute it at one input. -/
def quoteObjectsWrong : ChangeSpec := { name := "quoteObjects", fn := fun _ => fun
  | [d1, d2, d3, d4, d5] => { results := [.lit (.bool false)], args := [d1, d2, d3, d4, d5] }
  | _ => none }
def QuoteObjectsWrongFalsely : Prop := quoteObjectsRow.holds Try.pinned (OpenSpec.ofChange quoteObjectsWrong)

/-- 'foolscaplaw15.WordRuns': WHATEVER THE INPUT: true; the input reads as it did. -/
def wordRunsSpec : ChangeSpec := { name := "wordRuns", fn := fun _ => fun
  | [d1, d2, d3] => { results := [.lit (.bool true)], args := [d1, d2, d3] }
  | _ => none }
def wordRunsRow : OpenClaim := { program := "ytlbbgocggifjaaa", sum := "16c4d78c5d0c57e0358a3c89c3b823f861bb91d891490c2368b8b167182d54c9", func := "foolscap/foolscaplaw15.WordRuns", spec := "wordRuns", unfollowed := true, recurses := true, apart := false }
def WordRunsSaid : Prop := wordRunsRow.holds Try.pinned (OpenSpec.ofChange wordRunsSpec)

/-- ITS FALSE NEIGHBOUR: 'it returns false'. Refute it at one input. -/
def wordRunsWrong : ChangeSpec := { name := "wordRuns", fn := fun _ => fun
  | [d1, d2, d3] => { results := [.lit (.bool false)], args := [d1, d2, d3] }
  | _ => none }
def WordRunsWrongFalsely : Prop := wordRunsRow.holds Try.pinned (OpenSpec.ofChange wordRunsWrong)

/-- 'foolscaplaw15.WordObjects': WHATEVER THE INPUT: true; the input reads as it did. -/
def wordObjectsSpec : ChangeSpec := { name := "wordObjects", fn := fun _ => fun
  | [d1, d2, d3, d4, d5, d6] => { results := [.lit (.bool true)], args := [d1, d2, d3, d4, d5, d6] }
  | _ => none }
def wordObjectsRow : OpenClaim := { program := "ytlbbgocggifjaaa", sum := "16c4d78c5d0c57e0358a3c89c3b823f861bb91d891490c2368b8b167182d54c9", func := "foolscap/foolscaplaw15.WordObjects", spec := "wordObjects", unfollowed := true, recurses := true, apart := false }
def WordObjectsSaid : Prop := wordObjectsRow.holds Try.pinned (OpenSpec.ofChange wordObjectsSpec)

/-- ITS FALSE NEIGHBOUR: 'it returns false'. Refute it at one input. -/
def wordObjectsWrong : ChangeSpec := { name := "wordObjects", fn := fun _ => fun
  | [d1, d2, d3, d4, d5, d6] => { results := [.lit (.bool false)], args := [d1, d2, d3, d4, d5, d6] }
  | _ => none }
def WordObjectsWrongFalsely : Prop := wordObjectsRow.holds Try.pinned (OpenSpec.ofChange wordObjectsWrong)

/-- 'foolscaplaw11.PairMatch': WHATEVER THE INPUT: true; the input reads as it did. -/
def pairMatchSpec : ChangeSpec := { name := "pairMatch", fn := fun _ => fun
  | [d1, d2, d3, d4, d5] => { results := [.lit (.bool true)], args := [d1, d2, d3, d4, d5] }
  | _ => none }
def pairMatchRow : OpenClaim := { program := "ytlbbgocggifjaaa", sum := "16c4d78c5d0c57e0358a3c89c3b823f861bb91d891490c2368b8b167182d54c9", func := "foolscap/foolscaplaw11.PairMatch", spec := "pairMatch", apart := false }
def PairMatchSaid : Prop := pairMatchRow.holds Try.pinned (OpenSpec.ofChange pairMatchSpec)

/-- ITS FALSE NEIGHBOUR: 'it returns false'. Refute it at one input. -/
def pairMatchWrong : ChangeSpec := { name := "pairMatch", fn := fun _ => fun
  | [d1, d2, d3, d4, d5] => { results := [.lit (.bool false)], args := [d1, d2, d3, d4, d5] }
  | _ => none }
def PairMatchWrongFalsely : Prop := pairMatchRow.holds Try.pinned (OpenSpec.ofChange pairMatchWrong)

/-- 'foolscaplaw11.PairEnclosing': WHATEVER THE INPUT: true; the input reads as it did. -/
def pairEnclosingSpec : ChangeSpec := { name := "pairEnclosing", fn := fun _ => fun
  | [d1, d2, d3, d4, d5, d6] => { results := [.lit (.bool true)], args := [d1, d2, d3, d4, d5, d6] }
  | _ => none }
def pairEnclosingRow : OpenClaim := { program := "ytlbbgocggifjaaa", sum := "16c4d78c5d0c57e0358a3c89c3b823f861bb91d891490c2368b8b167182d54c9", func := "foolscap/foolscaplaw11.PairEnclosing", spec := "pairEnclosing", apart := false }
def PairEnclosingSaid : Prop := pairEnclosingRow.holds Try.pinned (OpenSpec.ofChange pairEnclosingSpec)

/-- ITS FALSE NEIGHBOUR: 'it returns false'. Refute it at one input. -/
def pairEnclosingWrong : ChangeSpec := { name := "pairEnclosing", fn := fun _ => fun
  | [d1, d2, d3, d4, d5, d6] => { results := [.lit (.bool false)], args := [d1, d2, d3, d4, d5, d6] }
  | _ => none }
def PairEnclosingWrongFalsely : Prop := pairEnclosingRow.holds Try.pinned (OpenSpec.ofChange pairEnclosingWrong)

/-- 'foolscaplaw11.PairDeep': WHATEVER THE INPUT: true; the input reads as it did. -/
def pairDeepSpec : ChangeSpec := { name := "pairDeep", fn := fun _ => fun
  | [d1, d2] => { results := [.lit (.bool true)], args := [d1, d2] }
  | _ => none }
def pairDeepRow : OpenClaim := { program := "ytlbbgocggifjaaa", sum := "16c4d78c5d0c57e0358a3c89c3b823f861bb91d891490c2368b8b167182d54c9", func := "foolscap/foolscaplaw11.PairDeep", spec := "pairDeep", apart := false }
def PairDeepSaid : Prop := pairDeepRow.holds Try.pinned (OpenSpec.ofChange pairDeepSpec)

/-- ITS FALSE NEIGHBOUR: 'it returns false'. Refute it at one input. -/
def pairDeepWrong : ChangeSpec := { name := "pairDeep", fn := fun _ => fun
  | [d1, d2] => { results := [.lit (.bool false)], args := [d1, d2] }
  | _ => none }
def PairDeepWrongFalsely : Prop := pairDeepRow.holds Try.pinned (OpenSpec.ofChange pairDeepWrong)

/-- 'foolscaplaw17.BracketObjects': WHATEVER THE INPUT: true; the input reads as it did. -/
def bracketObjectsSpec : ChangeSpec := { name := "bracketObjects", fn := fun _ => fun
  | [d1, d2, d3, d4, d5, d6] => { results := [.lit (.bool true)], args := [d1, d2, d3, d4, d5, d6] }
  | _ => none }
def bracketObjectsRow : OpenClaim := { program := "ytlbbgocggifjaaa", sum := "16c4d78c5d0c57e0358a3c89c3b823f861bb91d891490c2368b8b167182d54c9", func := "foolscap/foolscaplaw17.BracketObjects", spec := "bracketObjects", apart := false }
def BracketObjectsSaid : Prop := bracketObjectsRow.holds Try.pinned (OpenSpec.ofChange bracketObjectsSpec)

/-- ITS FALSE NEIGHBOUR: 'it returns false'. Refute it at one input. -/
def bracketObjectsWrong : ChangeSpec := { name := "bracketObjects", fn := fun _ => fun
  | [d1, d2, d3, d4, d5, d6] => { results := [.lit (.bool false)], args := [d1, d2, d3, d4, d5, d6] }
  | _ => none }
def BracketObjectsWrongFalsely : Prop := bracketObjectsRow.holds Try.pinned (OpenSpec.ofChange bracketObjectsWrong)

/-- 'foolscaplaw17.BracketAround': WHATEVER THE INPUT: true; the input reads as it did. -/
def bracketAroundSpec : ChangeSpec := { name := "bracketAround", fn := fun _ => fun
  | [d1, d2, d3, d4, d5] => { results := [.lit (.bool true)], args := [d1, d2, d3, d4, d5] }
  | _ => none }
def bracketAroundRow : OpenClaim := { program := "ytlbbgocggifjaaa", sum := "16c4d78c5d0c57e0358a3c89c3b823f861bb91d891490c2368b8b167182d54c9", func := "foolscap/foolscaplaw17.BracketAround", spec := "bracketAround", apart := false }
def BracketAroundSaid : Prop := bracketAroundRow.holds Try.pinned (OpenSpec.ofChange bracketAroundSpec)

/-- ITS FALSE NEIGHBOUR: 'it returns false'. Refute it at one input. -/
def bracketAroundWrong : ChangeSpec := { name := "bracketAround", fn := fun _ => fun
  | [d1, d2, d3, d4, d5] => { results := [.lit (.bool false)], args := [d1, d2, d3, d4, d5] }
  | _ => none }
def BracketAroundWrongFalsely : Prop := bracketAroundRow.holds Try.pinned (OpenSpec.ofChange bracketAroundWrong)

/-- 'foolscaplaw12.FindAll': WHATEVER THE INPUT: true; the input reads as it did. -/
def findAllSpec : ChangeSpec := { name := "findAll", fn := fun _ => fun
  | [d1, d2, d3, d4, d5, d6] => { results := [.lit (.bool true)], args := [d1, d2, d3, d4, d5, d6] }
  | _ => none }
def findAllRow : OpenClaim := { program := "ytlbbgocggifjaaa", sum := "16c4d78c5d0c57e0358a3c89c3b823f861bb91d891490c2368b8b167182d54c9", func := "foolscap/foolscaplaw12.FindAll", spec := "findAll", unfollowed := true, recurses := true, apart := false }
def FindAllSaid : Prop := findAllRow.holds Try.pinned (OpenSpec.ofChange findAllSpec)

/-- ITS FALSE NEIGHBOUR: 'it returns false'. Refute it at one input. -/
def findAllWrong : ChangeSpec := { name := "findAll", fn := fun _ => fun
  | [d1, d2, d3, d4, d5, d6] => { results := [.lit (.bool false)], args := [d1, d2, d3, d4, d5, d6] }
  | _ => none }
def FindAllWrongFalsely : Prop := findAllRow.holds Try.pinned (OpenSpec.ofChange findAllWrong)

/-- 'foolscaplaw10.ParaMove': WHATEVER THE INPUT: true; the input reads as it did. -/
def paraMoveSpec : ChangeSpec := { name := "paraMove", fn := fun _ => fun
  | [d1, d2, d3, d4, d5, d6] => { results := [.lit (.bool true)], args := [d1, d2, d3, d4, d5, d6] }
  | _ => none }
def paraMoveRow : OpenClaim := { program := "ytlbbgocggifjaaa", sum := "16c4d78c5d0c57e0358a3c89c3b823f861bb91d891490c2368b8b167182d54c9", func := "foolscap/foolscaplaw10.ParaMove", spec := "paraMove", unfollowed := true, recurses := true, apart := false }
def ParaMoveSaid : Prop := paraMoveRow.holds Try.pinned (OpenSpec.ofChange paraMoveSpec)

/-- ITS FALSE NEIGHBOUR: 'it returns false'. Refute it at one input. -/
def paraMoveWrong : ChangeSpec := { name := "paraMove", fn := fun _ => fun
  | [d1, d2, d3, d4, d5, d6] => { results := [.lit (.bool false)], args := [d1, d2, d3, d4, d5, d6] }
  | _ => none }
def ParaMoveWrongFalsely : Prop := paraMoveRow.holds Try.pinned (OpenSpec.ofChange paraMoveWrong)

/-- 'foolscaplaw10.ParaSentences': WHATEVER THE INPUT: true; the input reads as it did. -/
def paraSentencesSpec : ChangeSpec := { name := "paraSentences", fn := fun _ => fun
  | [d1, d2] => { results := [.lit (.bool true)], args := [d1, d2] }
  | _ => none }
def paraSentencesRow : OpenClaim := { program := "ytlbbgocggifjaaa", sum := "16c4d78c5d0c57e0358a3c89c3b823f861bb91d891490c2368b8b167182d54c9", func := "foolscap/foolscaplaw10.ParaSentences", spec := "paraSentences", unfollowed := true, recurses := true, apart := false }
def ParaSentencesSaid : Prop := paraSentencesRow.holds Try.pinned (OpenSpec.ofChange paraSentencesSpec)

/-- ITS FALSE NEIGHBOUR: 'it returns false'. Refute it at one input. -/
def paraSentencesWrong : ChangeSpec := { name := "paraSentences", fn := fun _ => fun
  | [d1, d2] => { results := [.lit (.bool false)], args := [d1, d2] }
  | _ => none }
def ParaSentencesWrongFalsely : Prop := paraSentencesRow.holds Try.pinned (OpenSpec.ofChange paraSentencesWrong)

/-- 'foolscaplaw10.ParaSteps': WHATEVER THE INPUT: true; the input reads as it did. -/
def paraStepsSpec : ChangeSpec := { name := "paraSteps", fn := fun _ => fun
  | [d1, d2, d3, d4, d5, d6] => { results := [.lit (.bool true)], args := [d1, d2, d3, d4, d5, d6] }
  | _ => none }
def paraStepsRow : OpenClaim := { program := "ytlbbgocggifjaaa", sum := "16c4d78c5d0c57e0358a3c89c3b823f861bb91d891490c2368b8b167182d54c9", func := "foolscap/foolscaplaw10.ParaSteps", spec := "paraSteps", unfollowed := true, recurses := true, apart := false }
def ParaStepsSaid : Prop := paraStepsRow.holds Try.pinned (OpenSpec.ofChange paraStepsSpec)

/-- ITS FALSE NEIGHBOUR: 'it returns false'. Refute it at one input. -/
def paraStepsWrong : ChangeSpec := { name := "paraSteps", fn := fun _ => fun
  | [d1, d2, d3, d4, d5, d6] => { results := [.lit (.bool false)], args := [d1, d2, d3, d4, d5, d6] }
  | _ => none }
def ParaStepsWrongFalsely : Prop := paraStepsRow.holds Try.pinned (OpenSpec.ofChange paraStepsWrong)

/-- 'foolscaplaw18.ParaBlocks': WHATEVER THE INPUT: true; the input reads as it did. -/
def paraBlocksSpec : ChangeSpec := { name := "paraBlocks", fn := fun _ => fun
  | [d1, d2] => { results := [.lit (.bool true)], args := [d1, d2] }
  | _ => none }
def paraBlocksRow : OpenClaim := { program := "ytlbbgocggifjaaa", sum := "16c4d78c5d0c57e0358a3c89c3b823f861bb91d891490c2368b8b167182d54c9", func := "foolscap/foolscaplaw18.ParaBlocks", spec := "paraBlocks", unfollowed := true, recurses := true, apart := false }
def ParaBlocksSaid : Prop := paraBlocksRow.holds Try.pinned (OpenSpec.ofChange paraBlocksSpec)

/-- ITS FALSE NEIGHBOUR: 'it returns false'. Refute it at one input. -/
def paraBlocksWrong : ChangeSpec := { name := "paraBlocks", fn := fun _ => fun
  | [d1, d2] => { results := [.lit (.bool false)], args := [d1, d2] }
  | _ => none }
def ParaBlocksWrongFalsely : Prop := paraBlocksRow.holds Try.pinned (OpenSpec.ofChange paraBlocksWrong)

/-- 'foolscaplaw18.ParaObjects': WHATEVER THE INPUT: true; the input reads as it did. -/
def paraObjectsSpec : ChangeSpec := { name := "paraObjects", fn := fun _ => fun
  | [d1, d2, d3, d4, d5] => { results := [.lit (.bool true)], args := [d1, d2, d3, d4, d5] }
  | _ => none }
def paraObjectsRow : OpenClaim := { program := "ytlbbgocggifjaaa", sum := "16c4d78c5d0c57e0358a3c89c3b823f861bb91d891490c2368b8b167182d54c9", func := "foolscap/foolscaplaw18.ParaObjects", spec := "paraObjects", unfollowed := true, recurses := true, apart := false }
def ParaObjectsSaid : Prop := paraObjectsRow.holds Try.pinned (OpenSpec.ofChange paraObjectsSpec)

/-- ITS FALSE NEIGHBOUR: 'it returns false'. Refute it at one input. -/
def paraObjectsWrong : ChangeSpec := { name := "paraObjects", fn := fun _ => fun
  | [d1, d2, d3, d4, d5] => { results := [.lit (.bool false)], args := [d1, d2, d3, d4, d5] }
  | _ => none }
def ParaObjectsWrongFalsely : Prop := paraObjectsRow.holds Try.pinned (OpenSpec.ofChange paraObjectsWrong)

/-- 'foolscaplaw26.ObjectDoes': WHATEVER THE INPUT: true; the input reads as it did. -/
def objectDoesSpec : ChangeSpec := { name := "objectDoes", fn := fun _ => fun
  | [d1, d2, d3, d4, d5, d6, d7] => { results := [.lit (.bool true)], args := [d1, d2, d3, d4, d5, d6, d7] }
  | _ => none }
def objectDoesRow : OpenClaim := { program := "ytlbbgocggifjaaa", sum := "16c4d78c5d0c57e0358a3c89c3b823f861bb91d891490c2368b8b167182d54c9", func := "foolscap/foolscaplaw26.ObjectDoes", spec := "objectDoes", unfollowed := true, recurses := true, apart := false }
def ObjectDoesSaid : Prop := objectDoesRow.holds Try.pinned (OpenSpec.ofChange objectDoesSpec)

/-- ITS FALSE NEIGHBOUR: 'it returns false'. Refute it at one input. -/
def objectDoesWrong : ChangeSpec := { name := "objectDoes", fn := fun _ => fun
  | [d1, d2, d3, d4, d5, d6, d7] => { results := [.lit (.bool false)], args := [d1, d2, d3, d4, d5, d6, d7] }
  | _ => none }
def ObjectDoesWrongFalsely : Prop := objectDoesRow.holds Try.pinned (OpenSpec.ofChange objectDoesWrong)

/-- 'foolscaplaw26.ObjectInner': WHATEVER THE INPUT: true; the input reads as it did. -/
def objectInnerSpec : ChangeSpec := { name := "objectInner", fn := fun _ => fun
  | [d1, d2, d3, d4, d5] => { results := [.lit (.bool true)], args := [d1, d2, d3, d4, d5] }
  | _ => none }
def objectInnerRow : OpenClaim := { program := "ytlbbgocggifjaaa", sum := "16c4d78c5d0c57e0358a3c89c3b823f861bb91d891490c2368b8b167182d54c9", func := "foolscap/foolscaplaw26.ObjectInner", spec := "objectInner", unfollowed := true, recurses := true, apart := false }
def ObjectInnerSaid : Prop := objectInnerRow.holds Try.pinned (OpenSpec.ofChange objectInnerSpec)

/-- ITS FALSE NEIGHBOUR: 'it returns false'. Refute it at one input. -/
def objectInnerWrong : ChangeSpec := { name := "objectInner", fn := fun _ => fun
  | [d1, d2, d3, d4, d5] => { results := [.lit (.bool false)], args := [d1, d2, d3, d4, d5] }
  | _ => none }
def ObjectInnerWrongFalsely : Prop := objectInnerRow.holds Try.pinned (OpenSpec.ofChange objectInnerWrong)

/- THE SECOND FORM. 'bulk': how many values and letters a reading holds, each counted each time it is reached (what is shared counts as often as it is met; a slice's spare places count too). A statement '..UptoSaid' is the law's where the arguments, and the package variables that the reading takes, are together of bulk at most 1048576: NARROWER than '..Said'. Prove '..Said' where nothing that the law and all that it calls make is longer than what came in: it says more and counts as full. Else prove '..UptoSaid'. A law counts once. -/
mutual
def uptoBulk {H : Type} : DataW H → Nat
  | .lit (.string bytes) => bytes.length + 1
  | .lit _ => 1
  | .nil => 1
  | .ptr d => uptoBulk d + 1
  | .slice elems spare => uptoBulkAll elems + uptoBulkAll spare + 1
  | .agg parts => uptoBulkAll parts + 1
  | .iface _ d => uptoBulk d + 1
  | .map entries => uptoBulkEntries entries + 1
  | .held _ => 1
def uptoBulkAll {H : Type} : List (DataW H) → Nat
  | [] => 0
  | d :: r => uptoBulk d + uptoBulkAll r
def uptoBulkEntries {H : Type} : List (Lit × DataW H) → Nat
  | [] => 0
  | x :: r => uptoBulkEntry x + uptoBulkEntries r
def uptoBulkEntry {H : Type} : Lit × DataW H → Nat
  | (.string bytes, d) => bytes.length + uptoBulk d + 1
  | (_, d) => uptoBulk d + 1
 end
def uptoSmall : (H : Type) → List (DataW H) → Bool := fun _ ds => decide (uptoBulkAll ds ≤ 1048576)
def OpenSpec.upto (s : _root_.Go.ChangeSpec) : _root_.Go.OpenSpec := { _root_.Go.OpenSpec.ofChange s with cond := some uptoSmall }

/-- 'foolscaplaw6.SpanCells', WHERE WHAT IT READS IS OF BULK AT MOST 1048576: true; the input reads as it did. -/
def spanCellsUptoRow : OpenClaim := { program := "ytlbbgocggifjaaa", sum := "16c4d78c5d0c57e0358a3c89c3b823f861bb91d891490c2368b8b167182d54c9", func := "foolscap/foolscaplaw6.SpanCells", spec := "spanCells", unfollowed := true, recurses := true, apart := false, narrowed := true }
def SpanCellsUptoSaid : Prop := spanCellsUptoRow.holds Try.pinned (OpenSpec.upto spanCellsSpec)

/-- 'foolscaplaw16.QuotePairs', WHERE WHAT IT READS IS OF BULK AT MOST 1048576: true; the input reads as it did. -/
def quotePairsUptoRow : OpenClaim := { program := "ytlbbgocggifjaaa", sum := "16c4d78c5d0c57e0358a3c89c3b823f861bb91d891490c2368b8b167182d54c9", func := "foolscap/foolscaplaw16.QuotePairs", spec := "quotePairs", unfollowed := true, recurses := true, apart := false, narrowed := true }
def QuotePairsUptoSaid : Prop := quotePairsUptoRow.holds Try.pinned (OpenSpec.upto quotePairsSpec)

/-- 'foolscaplaw16.QuoteObjects', WHERE WHAT IT READS IS OF BULK AT MOST 1048576: true; the input reads as it did. -/
def quoteObjectsUptoRow : OpenClaim := { program := "ytlbbgocggifjaaa", sum := "16c4d78c5d0c57e0358a3c89c3b823f861bb91d891490c2368b8b167182d54c9", func := "foolscap/foolscaplaw16.QuoteObjects", spec := "quoteObjects", unfollowed := true, recurses := true, apart := false, narrowed := true }
def QuoteObjectsUptoSaid : Prop := quoteObjectsUptoRow.holds Try.pinned (OpenSpec.upto quoteObjectsSpec)

/-- 'foolscaplaw15.WordRuns', WHERE WHAT IT READS IS OF BULK AT MOST 1048576: true; the input reads as it did. -/
def wordRunsUptoRow : OpenClaim := { program := "ytlbbgocggifjaaa", sum := "16c4d78c5d0c57e0358a3c89c3b823f861bb91d891490c2368b8b167182d54c9", func := "foolscap/foolscaplaw15.WordRuns", spec := "wordRuns", unfollowed := true, recurses := true, apart := false, narrowed := true }
def WordRunsUptoSaid : Prop := wordRunsUptoRow.holds Try.pinned (OpenSpec.upto wordRunsSpec)

/-- 'foolscaplaw15.WordObjects', WHERE WHAT IT READS IS OF BULK AT MOST 1048576: true; the input reads as it did. -/
def wordObjectsUptoRow : OpenClaim := { program := "ytlbbgocggifjaaa", sum := "16c4d78c5d0c57e0358a3c89c3b823f861bb91d891490c2368b8b167182d54c9", func := "foolscap/foolscaplaw15.WordObjects", spec := "wordObjects", unfollowed := true, recurses := true, apart := false, narrowed := true }
def WordObjectsUptoSaid : Prop := wordObjectsUptoRow.holds Try.pinned (OpenSpec.upto wordObjectsSpec)

/-- 'foolscaplaw11.PairMatch', WHERE WHAT IT READS IS OF BULK AT MOST 1048576: true; the input reads as it did. -/
def pairMatchUptoRow : OpenClaim := { program := "ytlbbgocggifjaaa", sum := "16c4d78c5d0c57e0358a3c89c3b823f861bb91d891490c2368b8b167182d54c9", func := "foolscap/foolscaplaw11.PairMatch", spec := "pairMatch", apart := false, narrowed := true }
def PairMatchUptoSaid : Prop := pairMatchUptoRow.holds Try.pinned (OpenSpec.upto pairMatchSpec)

/-- 'foolscaplaw11.PairEnclosing', WHERE WHAT IT READS IS OF BULK AT MOST 1048576: true; the input reads as it did. -/
def pairEnclosingUptoRow : OpenClaim := { program := "ytlbbgocggifjaaa", sum := "16c4d78c5d0c57e0358a3c89c3b823f861bb91d891490c2368b8b167182d54c9", func := "foolscap/foolscaplaw11.PairEnclosing", spec := "pairEnclosing", apart := false, narrowed := true }
def PairEnclosingUptoSaid : Prop := pairEnclosingUptoRow.holds Try.pinned (OpenSpec.upto pairEnclosingSpec)

/-- 'foolscaplaw11.PairDeep', WHERE WHAT IT READS IS OF BULK AT MOST 1048576: true; the input reads as it did. -/
def pairDeepUptoRow : OpenClaim := { program := "ytlbbgocggifjaaa", sum := "16c4d78c5d0c57e0358a3c89c3b823f861bb91d891490c2368b8b167182d54c9", func := "foolscap/foolscaplaw11.PairDeep", spec := "pairDeep", apart := false, narrowed := true }
def PairDeepUptoSaid : Prop := pairDeepUptoRow.holds Try.pinned (OpenSpec.upto pairDeepSpec)

/-- 'foolscaplaw17.BracketObjects', WHERE WHAT IT READS IS OF BULK AT MOST 1048576: true; the input reads as it did. -/
def bracketObjectsUptoRow : OpenClaim := { program := "ytlbbgocggifjaaa", sum := "16c4d78c5d0c57e0358a3c89c3b823f861bb91d891490c2368b8b167182d54c9", func := "foolscap/foolscaplaw17.BracketObjects", spec := "bracketObjects", apart := false, narrowed := true }
def BracketObjectsUptoSaid : Prop := bracketObjectsUptoRow.holds Try.pinned (OpenSpec.upto bracketObjectsSpec)

/-- 'foolscaplaw17.BracketAround', WHERE WHAT IT READS IS OF BULK AT MOST 1048576: true; the input reads as it did. -/
def bracketAroundUptoRow : OpenClaim := { program := "ytlbbgocggifjaaa", sum := "16c4d78c5d0c57e0358a3c89c3b823f861bb91d891490c2368b8b167182d54c9", func := "foolscap/foolscaplaw17.BracketAround", spec := "bracketAround", apart := false, narrowed := true }
def BracketAroundUptoSaid : Prop := bracketAroundUptoRow.holds Try.pinned (OpenSpec.upto bracketAroundSpec)

/-- 'foolscaplaw12.FindAll', WHERE WHAT IT READS IS OF BULK AT MOST 1048576: true; the input reads as it did. -/
def findAllUptoRow : OpenClaim := { program := "ytlbbgocggifjaaa", sum := "16c4d78c5d0c57e0358a3c89c3b823f861bb91d891490c2368b8b167182d54c9", func := "foolscap/foolscaplaw12.FindAll", spec := "findAll", unfollowed := true, recurses := true, apart := false, narrowed := true }
def FindAllUptoSaid : Prop := findAllUptoRow.holds Try.pinned (OpenSpec.upto findAllSpec)

/-- 'foolscaplaw10.ParaMove', WHERE WHAT IT READS IS OF BULK AT MOST 1048576: true; the input reads as it did. -/
def paraMoveUptoRow : OpenClaim := { program := "ytlbbgocggifjaaa", sum := "16c4d78c5d0c57e0358a3c89c3b823f861bb91d891490c2368b8b167182d54c9", func := "foolscap/foolscaplaw10.ParaMove", spec := "paraMove", unfollowed := true, recurses := true, apart := false, narrowed := true }
def ParaMoveUptoSaid : Prop := paraMoveUptoRow.holds Try.pinned (OpenSpec.upto paraMoveSpec)

/-- 'foolscaplaw10.ParaSentences', WHERE WHAT IT READS IS OF BULK AT MOST 1048576: true; the input reads as it did. -/
def paraSentencesUptoRow : OpenClaim := { program := "ytlbbgocggifjaaa", sum := "16c4d78c5d0c57e0358a3c89c3b823f861bb91d891490c2368b8b167182d54c9", func := "foolscap/foolscaplaw10.ParaSentences", spec := "paraSentences", unfollowed := true, recurses := true, apart := false, narrowed := true }
def ParaSentencesUptoSaid : Prop := paraSentencesUptoRow.holds Try.pinned (OpenSpec.upto paraSentencesSpec)

/-- 'foolscaplaw10.ParaSteps', WHERE WHAT IT READS IS OF BULK AT MOST 1048576: true; the input reads as it did. -/
def paraStepsUptoRow : OpenClaim := { program := "ytlbbgocggifjaaa", sum := "16c4d78c5d0c57e0358a3c89c3b823f861bb91d891490c2368b8b167182d54c9", func := "foolscap/foolscaplaw10.ParaSteps", spec := "paraSteps", unfollowed := true, recurses := true, apart := false, narrowed := true }
def ParaStepsUptoSaid : Prop := paraStepsUptoRow.holds Try.pinned (OpenSpec.upto paraStepsSpec)

/-- 'foolscaplaw18.ParaBlocks', WHERE WHAT IT READS IS OF BULK AT MOST 1048576: true; the input reads as it did. -/
def paraBlocksUptoRow : OpenClaim := { program := "ytlbbgocggifjaaa", sum := "16c4d78c5d0c57e0358a3c89c3b823f861bb91d891490c2368b8b167182d54c9", func := "foolscap/foolscaplaw18.ParaBlocks", spec := "paraBlocks", unfollowed := true, recurses := true, apart := false, narrowed := true }
def ParaBlocksUptoSaid : Prop := paraBlocksUptoRow.holds Try.pinned (OpenSpec.upto paraBlocksSpec)

/-- 'foolscaplaw18.ParaObjects', WHERE WHAT IT READS IS OF BULK AT MOST 1048576: true; the input reads as it did. -/
def paraObjectsUptoRow : OpenClaim := { program := "ytlbbgocggifjaaa", sum := "16c4d78c5d0c57e0358a3c89c3b823f861bb91d891490c2368b8b167182d54c9", func := "foolscap/foolscaplaw18.ParaObjects", spec := "paraObjects", unfollowed := true, recurses := true, apart := false, narrowed := true }
def ParaObjectsUptoSaid : Prop := paraObjectsUptoRow.holds Try.pinned (OpenSpec.upto paraObjectsSpec)

/-- 'foolscaplaw26.ObjectDoes', WHERE WHAT IT READS IS OF BULK AT MOST 1048576: true; the input reads as it did. -/
def objectDoesUptoRow : OpenClaim := { program := "ytlbbgocggifjaaa", sum := "16c4d78c5d0c57e0358a3c89c3b823f861bb91d891490c2368b8b167182d54c9", func := "foolscap/foolscaplaw26.ObjectDoes", spec := "objectDoes", unfollowed := true, recurses := true, apart := false, narrowed := true }
def ObjectDoesUptoSaid : Prop := objectDoesUptoRow.holds Try.pinned (OpenSpec.upto objectDoesSpec)

/-- 'foolscaplaw26.ObjectInner', WHERE WHAT IT READS IS OF BULK AT MOST 1048576: true; the input reads as it did. -/
def objectInnerUptoRow : OpenClaim := { program := "ytlbbgocggifjaaa", sum := "16c4d78c5d0c57e0358a3c89c3b823f861bb91d891490c2368b8b167182d54c9", func := "foolscap/foolscaplaw26.ObjectInner", spec := "objectInner", unfollowed := true, recurses := true, apart := false, narrowed := true }
def ObjectInnerUptoSaid : Prop := objectInnerUptoRow.holds Try.pinned (OpenSpec.upto objectInnerSpec)

end Rows
end Go.Proofs.Ytlbbgocggifjaaa
