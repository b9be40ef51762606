/-
  No cell of these rows narrows 'for every input' (looked for: loops, veiled, ifaces, maps, wideKeys, modest, calm, conditions, laid).
  DERIVED. THE GIVEN ROWS OF THIS SEAT. 12 by the template 'for every input the law returns true; each argument reads behind the call as it read before'; 0 by the template 'total and deterministic' (their statements: YtmafieomlhpdeaaTotals.lean).
  GIVEN WITH THE SEED: the statements are not yours to turn. If you find one false, say at which input.
  Laid BY PROGRAM, IN A SANDBOX (cutbox-rows.mjs): the forced cells as the released guide's own fill.sh prints them over the translation 9c53f99df4175399… (all of the seat's roots in one cut). By AI agents, Wed Nov 11 2026. No macro, syntax, notation, axiom, sorry.
-/
import Derived.Test.YtmafieomlhpdeaaChecked
import GoSem.Claim
import GoSem.ClaimJoined
import GoSem.ClaimMapViews
import Derived.JoinedTies
import Derived.KernelRfl
namespace Go.Proofs.Ytmafieomlhpdeaa
/- THE CELL 'sum', in the pinned program and in every row, IS THE sha256 OF THE DUMP (.gsa) THAT YtmafieomlhpdeaaProg.lean LOADS. Nothing in Lean hashes anything: it is a label: what it is worth is what the hold of that sum in a sandbox is worth. -/
noncomputable def Try.pinned : Pinned := { name := "ytmafieomlhpdeaa", sum := "9c53f99df41753996f80ca7ff563aaeccd0a5c6312b0451ee2330fc0b2c6a61f", checked := Try.checked }
namespace Rows
def none {H : Type} : Left H := { results := [], args := [] }

/-- 'foolscaplaw9.VertScreen': WHATEVER THE INPUT: true; the input reads as it did. -/
def vertScreenSpec : ChangeSpec := { name := "vertScreen", fn := fun _ => fun
  | [d1, d2, d3, d4, d5, d6, d7] => { results := [.lit (.bool true)], args := [d1, d2, d3, d4, d5, d6, d7] }
  | _ => none }
def vertScreenRow : OpenClaim := { program := "ytmafieomlhpdeaa", sum := "9c53f99df41753996f80ca7ff563aaeccd0a5c6312b0451ee2330fc0b2c6a61f", func := "foolscap/foolscaplaw9.VertScreen", spec := "vertScreen", apart := false }
def VertScreenSaid : Prop := vertScreenRow.holds Try.pinned (OpenSpec.ofChange vertScreenSpec)

/-- ITS FALSE NEIGHBOUR: 'it returns false'. Refute it at one input. -/
def vertScreenWrong : ChangeSpec := { name := "vertScreen", fn := fun _ => fun
  | [d1, d2, d3, d4, d5, d6, d7] => { results := [.lit (.bool false)], args := [d1, d2, d3, d4, d5, d6, d7] }
  | _ => none }
def VertScreenWrongFalsely : Prop := vertScreenRow.holds Try.pinned (OpenSpec.ofChange vertScreenWrong)

/-- 'foolscaplaw9.VertGoto': WHATEVER THE INPUT: true; the input reads as it did. -/
def vertGotoSpec : ChangeSpec := { name := "vertGoto", fn := fun _ => fun
  | [d1, d2] => { results := [.lit (.bool true)], args := [d1, d2] }
  | _ => none }
def vertGotoRow : OpenClaim := { program := "ytmafieomlhpdeaa", sum := "9c53f99df41753996f80ca7ff563aaeccd0a5c6312b0451ee2330fc0b2c6a61f", func := "foolscap/foolscaplaw9.VertGoto", spec := "vertGoto", apart := false }
def VertGotoSaid : Prop := vertGotoRow.holds Try.pinned (OpenSpec.ofChange vertGotoSpec)

/-- ITS FALSE NEIGHBOUR: 'it returns false'. Refute it at one input. -/
def vertGotoWrong : ChangeSpec := { name := "vertGoto", fn := fun _ => fun
  | [d1, d2] => { results := [.lit (.bool false)], args := [d1, d2] }
  | _ => none }
def VertGotoWrongFalsely : Prop := vertGotoRow.holds Try.pinned (OpenSpec.ofChange vertGotoWrong)

/-- 'foolscaplaw9.VertWindow': WHATEVER THE INPUT: true; the input reads as it did. -/
def vertWindowSpec : ChangeSpec := { name := "vertWindow", fn := fun _ => fun
  | [d1, d2, d3] => { results := [.lit (.bool true)], args := [d1, d2, d3] }
  | _ => none }
def vertWindowRow : OpenClaim := { program := "ytmafieomlhpdeaa", sum := "9c53f99df41753996f80ca7ff563aaeccd0a5c6312b0451ee2330fc0b2c6a61f", func := "foolscap/foolscaplaw9.VertWindow", spec := "vertWindow", apart := false }
def VertWindowSaid : Prop := vertWindowRow.holds Try.pinned (OpenSpec.ofChange vertWindowSpec)

/-- ITS FALSE NEIGHBOUR: 'it returns false'. Refute it at one input. -/
def vertWindowWrong : ChangeSpec := { name := "vertWindow", fn := fun _ => fun
  | [d1, d2, d3] => { results := [.lit (.bool false)], args := [d1, d2, d3] }
  | _ => none }
def VertWindowWrongFalsely : Prop := vertWindowRow.holds Try.pinned (OpenSpec.ofChange vertWindowWrong)

/-- 'foolscaplaw7.CharsSeek': WHATEVER THE INPUT: true; the input reads as it did. -/
def charsSeekSpec : ChangeSpec := { name := "charsSeek", fn := fun _ => fun
  | [d1, d2, d3, d4, d5, d6, d7] => { results := [.lit (.bool true)], args := [d1, d2, d3, d4, d5, d6, d7] }
  | _ => none }
def charsSeekRow : OpenClaim := { program := "ytmafieomlhpdeaa", sum := "9c53f99df41753996f80ca7ff563aaeccd0a5c6312b0451ee2330fc0b2c6a61f", func := "foolscap/foolscaplaw7.CharsSeek", spec := "charsSeek", apart := false }
def CharsSeekSaid : Prop := charsSeekRow.holds Try.pinned (OpenSpec.ofChange charsSeekSpec)

/-- ITS FALSE NEIGHBOUR: 'it returns false'. Refute it at one input. -/
def charsSeekWrong : ChangeSpec := { name := "charsSeek", fn := fun _ => fun
  | [d1, d2, d3, d4, d5, d6, d7] => { results := [.lit (.bool false)], args := [d1, d2, d3, d4, d5, d6, d7] }
  | _ => none }
def CharsSeekWrongFalsely : Prop := charsSeekRow.holds Try.pinned (OpenSpec.ofChange charsSeekWrong)

/-- 'foolscaplaw7.CharsThere': WHATEVER THE INPUT: true; the input reads as it did. -/
def charsThereSpec : ChangeSpec := { name := "charsThere", fn := fun _ => fun
  | [d1, d2, d3, d4] => { results := [.lit (.bool true)], args := [d1, d2, d3, d4] }
  | _ => none }
def charsThereRow : OpenClaim := { program := "ytmafieomlhpdeaa", sum := "9c53f99df41753996f80ca7ff563aaeccd0a5c6312b0451ee2330fc0b2c6a61f", func := "foolscap/foolscaplaw7.CharsThere", spec := "charsThere", apart := false }
def CharsThereSaid : Prop := charsThereRow.holds Try.pinned (OpenSpec.ofChange charsThereSpec)

/-- ITS FALSE NEIGHBOUR: 'it returns false'. Refute it at one input. -/
def charsThereWrong : ChangeSpec := { name := "charsThere", fn := fun _ => fun
  | [d1, d2, d3, d4] => { results := [.lit (.bool false)], args := [d1, d2, d3, d4] }
  | _ => none }
def CharsThereWrongFalsely : Prop := charsThereRow.holds Try.pinned (OpenSpec.ofChange charsThereWrong)

/-- 'foolscaplaw7.CharsEdges': WHATEVER THE INPUT: true; the input reads as it did. -/
def charsEdgesSpec : ChangeSpec := { name := "charsEdges", fn := fun _ => fun
  | [d1, d2, d3, d4] => { results := [.lit (.bool true)], args := [d1, d2, d3, d4] }
  | _ => none }
def charsEdgesRow : OpenClaim := { program := "ytmafieomlhpdeaa", sum := "9c53f99df41753996f80ca7ff563aaeccd0a5c6312b0451ee2330fc0b2c6a61f", func := "foolscap/foolscaplaw7.CharsEdges", spec := "charsEdges", apart := false }
def CharsEdgesSaid : Prop := charsEdgesRow.holds Try.pinned (OpenSpec.ofChange charsEdgesSpec)

/-- ITS FALSE NEIGHBOUR: 'it returns false'. Refute it at one input. -/
def charsEdgesWrong : ChangeSpec := { name := "charsEdges", fn := fun _ => fun
  | [d1, d2, d3, d4] => { results := [.lit (.bool false)], args := [d1, d2, d3, d4] }
  | _ => none }
def CharsEdgesWrongFalsely : Prop := charsEdgesRow.holds Try.pinned (OpenSpec.ofChange charsEdgesWrong)

/-- 'foolscaplaw7.CharsBack': WHATEVER THE INPUT: true; the input reads as it did. -/
def charsBackSpec : ChangeSpec := { name := "charsBack", fn := fun _ => fun
  | [d1, d2, d3, d4] => { results := [.lit (.bool true)], args := [d1, d2, d3, d4] }
  | _ => none }
def charsBackRow : OpenClaim := { program := "ytmafieomlhpdeaa", sum := "9c53f99df41753996f80ca7ff563aaeccd0a5c6312b0451ee2330fc0b2c6a61f", func := "foolscap/foolscaplaw7.CharsBack", spec := "charsBack", apart := false }
def CharsBackSaid : Prop := charsBackRow.holds Try.pinned (OpenSpec.ofChange charsBackSpec)

/-- ITS FALSE NEIGHBOUR: 'it returns false'. Refute it at one input. -/
def charsBackWrong : ChangeSpec := { name := "charsBack", fn := fun _ => fun
  | [d1, d2, d3, d4] => { results := [.lit (.bool false)], args := [d1, d2, d3, d4] }
  | _ => none }
def CharsBackWrongFalsely : Prop := charsBackRow.holds Try.pinned (OpenSpec.ofChange charsBackWrong)

/-- 'foolscaplaw9.VertWant': WHATEVER THE INPUT: true; the input reads as it did. -/
def vertWantSpec : ChangeSpec := { name := "vertWant", fn := fun _ => fun
  | [d1, d2, d3, d4, d5] => { results := [.lit (.bool true)], args := [d1, d2, d3, d4, d5] }
  | _ => none }
def vertWantRow : OpenClaim := { program := "ytmafieomlhpdeaa", sum := "9c53f99df41753996f80ca7ff563aaeccd0a5c6312b0451ee2330fc0b2c6a61f", func := "foolscap/foolscaplaw9.VertWant", spec := "vertWant", apart := false }
def VertWantSaid : Prop := vertWantRow.holds Try.pinned (OpenSpec.ofChange vertWantSpec)

/-- ITS FALSE NEIGHBOUR: 'it returns false'. Refute it at one input. -/
def vertWantWrong : ChangeSpec := { name := "vertWant", fn := fun _ => fun
  | [d1, d2, d3, d4, d5] => { results := [.lit (.bool false)], args := [d1, d2, d3, d4, d5] }
  | _ => none }
def VertWantWrongFalsely : Prop := vertWantRow.holds Try.pinned (OpenSpec.ofChange vertWantWrong)

/-- 'foolscaplaw27.AreaLines': WHATEVER THE INPUT: true; the input reads as it did. -/
def areaLinesSpec : ChangeSpec := { name := "areaLines", fn := fun _ => fun
  | [d1, d2, d3, d4, d5, d6, d7, d8] => { results := [.lit (.bool true)], args := [d1, d2, d3, d4, d5, d6, d7, d8] }
  | _ => none }
def areaLinesRow : OpenClaim := { program := "ytmafieomlhpdeaa", sum := "9c53f99df41753996f80ca7ff563aaeccd0a5c6312b0451ee2330fc0b2c6a61f", func := "foolscap/foolscaplaw27.AreaLines", spec := "areaLines", apart := false }
def AreaLinesSaid : Prop := areaLinesRow.holds Try.pinned (OpenSpec.ofChange areaLinesSpec)

/-- ITS FALSE NEIGHBOUR: 'it returns false'. Refute it at one input. -/
def areaLinesWrong : ChangeSpec := { name := "areaLines", fn := fun _ => fun
  | [d1, d2, d3, d4, d5, d6, d7, d8] => { results := [.lit (.bool false)], args := [d1, d2, d3, d4, d5, d6, d7, d8] }
  | _ => none }
def AreaLinesWrongFalsely : Prop := areaLinesRow.holds Try.pinned (OpenSpec.ofChange areaLinesWrong)

/-- 'foolscaplaw7.CharsColumn': WHATEVER THE INPUT: true; the input reads as it did. -/
def charsColumnSpec : ChangeSpec := { name := "charsColumn", fn := fun _ => fun
  | [d1, d2, d3, d4] => { results := [.lit (.bool true)], args := [d1, d2, d3, d4] }
  | _ => none }
def charsColumnRow : OpenClaim := { program := "ytmafieomlhpdeaa", sum := "9c53f99df41753996f80ca7ff563aaeccd0a5c6312b0451ee2330fc0b2c6a61f", func := "foolscap/foolscaplaw7.CharsColumn", spec := "charsColumn", apart := false }
def CharsColumnSaid : Prop := charsColumnRow.holds Try.pinned (OpenSpec.ofChange charsColumnSpec)

/-- ITS FALSE NEIGHBOUR: 'it returns false'. Refute it at one input. -/
def charsColumnWrong : ChangeSpec := { name := "charsColumn", fn := fun _ => fun
  | [d1, d2, d3, d4] => { results := [.lit (.bool false)], args := [d1, d2, d3, d4] }
  | _ => none }
def CharsColumnWrongFalsely : Prop := charsColumnRow.holds Try.pinned (OpenSpec.ofChange charsColumnWrong)

/-- 'foolscaplaw9.VertMove': WHATEVER THE INPUT: true; the input reads as it did. -/
def vertMoveSpec : ChangeSpec := { name := "vertMove", fn := fun _ => fun
  | [d1, d2, d3, d4, d5, d6] => { results := [.lit (.bool true)], args := [d1, d2, d3, d4, d5, d6] }
  | _ => none }
def vertMoveRow : OpenClaim := { program := "ytmafieomlhpdeaa", sum := "9c53f99df41753996f80ca7ff563aaeccd0a5c6312b0451ee2330fc0b2c6a61f", func := "foolscap/foolscaplaw9.VertMove", spec := "vertMove", apart := false }
def VertMoveSaid : Prop := vertMoveRow.holds Try.pinned (OpenSpec.ofChange vertMoveSpec)

/-- ITS FALSE NEIGHBOUR: 'it returns false'. Refute it at one input. -/
def vertMoveWrong : ChangeSpec := { name := "vertMove", fn := fun _ => fun
  | [d1, d2, d3, d4, d5, d6] => { results := [.lit (.bool false)], args := [d1, d2, d3, d4, d5, d6] }
  | _ => none }
def VertMoveWrongFalsely : Prop := vertMoveRow.holds Try.pinned (OpenSpec.ofChange vertMoveWrong)

/-- 'foolscaplaw7.CharsMove': WHATEVER THE INPUT: true; the input reads as it did. -/
def charsMoveSpec : ChangeSpec := { name := "charsMove", fn := fun _ => fun
  | [d1, d2, d3, d4, d5, d6] => { results := [.lit (.bool true)], args := [d1, d2, d3, d4, d5, d6] }
  | _ => none }
def charsMoveRow : OpenClaim := { program := "ytmafieomlhpdeaa", sum := "9c53f99df41753996f80ca7ff563aaeccd0a5c6312b0451ee2330fc0b2c6a61f", func := "foolscap/foolscaplaw7.CharsMove", spec := "charsMove", apart := false }
def CharsMoveSaid : Prop := charsMoveRow.holds Try.pinned (OpenSpec.ofChange charsMoveSpec)

/-- ITS FALSE NEIGHBOUR: 'it returns false'. Refute it at one input. -/
def charsMoveWrong : ChangeSpec := { name := "charsMove", fn := fun _ => fun
  | [d1, d2, d3, d4, d5, d6] => { results := [.lit (.bool false)], args := [d1, d2, d3, d4, d5, d6] }
  | _ => none }
def CharsMoveWrongFalsely : Prop := charsMoveRow.holds Try.pinned (OpenSpec.ofChange charsMoveWrong)

/- THE SECOND FORM. 'bulk': how many values and letters a reading holds, each counted each time it is reached (what is shared counts as often as it is met; a slice's spare places count too). A statement '..UptoSaid' is the law's where the arguments, and the package variables that the reading takes, are together of bulk at most 1048576: NARROWER than '..Said'. Prove '..Said' where nothing that the law and all that it calls make is longer than what came in: it says more and counts as full. Else prove '..UptoSaid'. A law counts once. -/
mutual
def uptoBulk {H : Type} : DataW H → Nat
  | .lit (.string bytes) => bytes.length + 1
  | .lit _ => 1
  | .nil => 1
  | .ptr d => uptoBulk d + 1
  | .slice elems spare => uptoBulkAll elems + uptoBulkAll spare + 1
  | .agg parts => uptoBulkAll parts + 1
  | .iface _ d => uptoBulk d + 1
  | .map entries => uptoBulkEntries entries + 1
  | .held _ => 1
def uptoBulkAll {H : Type} : List (DataW H) → Nat
  | [] => 0
  | d :: r => uptoBulk d + uptoBulkAll r
def uptoBulkEntries {H : Type} : List (Lit × DataW H) → Nat
  | [] => 0
  | x :: r => uptoBulkEntry x + uptoBulkEntries r
def uptoBulkEntry {H : Type} : Lit × DataW H → Nat
  | (.string bytes, d) => bytes.length + uptoBulk d + 1
  | (_, d) => uptoBulk d + 1
 end
def uptoSmall : (H : Type) → List (DataW H) → Bool := fun _ ds => decide (uptoBulkAll ds ≤ 1048576)
def OpenSpec.upto (s : _root_.Go.ChangeSpec) : _root_.Go.OpenSpec := { _root_.Go.OpenSpec.ofChange s with cond := some uptoSmall }

/-- 'foolscaplaw9.VertScreen', WHERE WHAT IT READS IS OF BULK AT MOST 1048576: true; the input reads as it did. -/
def vertScreenUptoRow : OpenClaim := { program := "ytmafieomlhpdeaa", sum := "9c53f99df41753996f80ca7ff563aaeccd0a5c6312b0451ee2330fc0b2c6a61f", func := "foolscap/foolscaplaw9.VertScreen", spec := "vertScreen", apart := false, narrowed := true }
def VertScreenUptoSaid : Prop := vertScreenUptoRow.holds Try.pinned (OpenSpec.upto vertScreenSpec)

/-- 'foolscaplaw9.VertGoto', WHERE WHAT IT READS IS OF BULK AT MOST 1048576: true; the input reads as it did. -/
def vertGotoUptoRow : OpenClaim := { program := "ytmafieomlhpdeaa", sum := "9c53f99df41753996f80ca7ff563aaeccd0a5c6312b0451ee2330fc0b2c6a61f", func := "foolscap/foolscaplaw9.VertGoto", spec := "vertGoto", apart := false, narrowed := true }
def VertGotoUptoSaid : Prop := vertGotoUptoRow.holds Try.pinned (OpenSpec.upto vertGotoSpec)

/-- 'foolscaplaw9.VertWindow', WHERE WHAT IT READS IS OF BULK AT MOST 1048576: true; the input reads as it did. -/
def vertWindowUptoRow : OpenClaim := { program := "ytmafieomlhpdeaa", sum := "9c53f99df41753996f80ca7ff563aaeccd0a5c6312b0451ee2330fc0b2c6a61f", func := "foolscap/foolscaplaw9.VertWindow", spec := "vertWindow", apart := false, narrowed := true }
def VertWindowUptoSaid : Prop := vertWindowUptoRow.holds Try.pinned (OpenSpec.upto vertWindowSpec)

/-- 'foolscaplaw7.CharsSeek', WHERE WHAT IT READS IS OF BULK AT MOST 1048576: true; the input reads as it did. -/
def charsSeekUptoRow : OpenClaim := { program := "ytmafieomlhpdeaa", sum := "9c53f99df41753996f80ca7ff563aaeccd0a5c6312b0451ee2330fc0b2c6a61f", func := "foolscap/foolscaplaw7.CharsSeek", spec := "charsSeek", apart := false, narrowed := true }
def CharsSeekUptoSaid : Prop := charsSeekUptoRow.holds Try.pinned (OpenSpec.upto charsSeekSpec)

/-- 'foolscaplaw7.CharsThere', WHERE WHAT IT READS IS OF BULK AT MOST 1048576: true; the input reads as it did. -/
def charsThereUptoRow : OpenClaim := { program := "ytmafieomlhpdeaa", sum := "9c53f99df41753996f80ca7ff563aaeccd0a5c6312b0451ee2330fc0b2c6a61f", func := "foolscap/foolscaplaw7.CharsThere", spec := "charsThere", apart := false, narrowed := true }
def CharsThereUptoSaid : Prop := charsThereUptoRow.holds Try.pinned (OpenSpec.upto charsThereSpec)

/-- 'foolscaplaw7.CharsEdges', WHERE WHAT IT READS IS OF BULK AT MOST 1048576: true; the input reads as it did. -/
def charsEdgesUptoRow : OpenClaim := { program := "ytmafieomlhpdeaa", sum := "9c53f99df41753996f80ca7ff563aaeccd0a5c6312b0451ee2330fc0b2c6a61f", func := "foolscap/foolscaplaw7.CharsEdges", spec := "charsEdges", apart := false, narrowed := true }
def CharsEdgesUptoSaid : Prop := charsEdgesUptoRow.holds Try.pinned (OpenSpec.upto charsEdgesSpec)

/-- 'foolscaplaw7.CharsBack', WHERE WHAT IT READS IS OF BULK AT MOST 1048576: true; the input reads as it did. -/
def charsBackUptoRow : OpenClaim := { program := "ytmafieomlhpdeaa", sum := "9c53f99df41753996f80ca7ff563aaeccd0a5c6312b0451ee2330fc0b2c6a61f", func := "foolscap/foolscaplaw7.CharsBack", spec := "charsBack", apart := false, narrowed := true }
def CharsBackUptoSaid : Prop := charsBackUptoRow.holds Try.pinned (OpenSpec.upto charsBackSpec)

/-- 'foolscaplaw9.VertWant', WHERE WHAT IT READS IS OF BULK AT MOST 1048576: true; the input reads as it did. -/
def vertWantUptoRow : OpenClaim := { program := "ytmafieomlhpdeaa", sum := "9c53f99df41753996f80ca7ff563aaeccd0a5c6312b0451ee2330fc0b2c6a61f", func := "foolscap/foolscaplaw9.VertWant", spec := "vertWant", apart := false, narrowed := true }
def VertWantUptoSaid : Prop := vertWantUptoRow.holds Try.pinned (OpenSpec.upto vertWantSpec)

/-- 'foolscaplaw27.AreaLines', WHERE WHAT IT READS IS OF BULK AT MOST 1048576: true; the input reads as it did. -/
def areaLinesUptoRow : OpenClaim := { program := "ytmafieomlhpdeaa", sum := "9c53f99df41753996f80ca7ff563aaeccd0a5c6312b0451ee2330fc0b2c6a61f", func := "foolscap/foolscaplaw27.AreaLines", spec := "areaLines", apart := false, narrowed := true }
def AreaLinesUptoSaid : Prop := areaLinesUptoRow.holds Try.pinned (OpenSpec.upto areaLinesSpec)

/-- 'foolscaplaw7.CharsColumn', WHERE WHAT IT READS IS OF BULK AT MOST 1048576: true; the input reads as it did. -/
def charsColumnUptoRow : OpenClaim := { program := "ytmafieomlhpdeaa", sum := "9c53f99df41753996f80ca7ff563aaeccd0a5c6312b0451ee2330fc0b2c6a61f", func := "foolscap/foolscaplaw7.CharsColumn", spec := "charsColumn", apart := false, narrowed := true }
def CharsColumnUptoSaid : Prop := charsColumnUptoRow.holds Try.pinned (OpenSpec.upto charsColumnSpec)

/-- 'foolscaplaw9.VertMove', WHERE WHAT IT READS IS OF BULK AT MOST 1048576: true; the input reads as it did. -/
def vertMoveUptoRow : OpenClaim := { program := "ytmafieomlhpdeaa", sum := "9c53f99df41753996f80ca7ff563aaeccd0a5c6312b0451ee2330fc0b2c6a61f", func := "foolscap/foolscaplaw9.VertMove", spec := "vertMove", apart := false, narrowed := true }
def VertMoveUptoSaid : Prop := vertMoveUptoRow.holds Try.pinned (OpenSpec.upto vertMoveSpec)

/-- 'foolscaplaw7.CharsMove', WHERE WHAT IT READS IS OF BULK AT MOST 1048576: true; the input reads as it did. -/
def charsMoveUptoRow : OpenClaim := { program := "ytmafieomlhpdeaa", sum := "9c53f99df41753996f80ca7ff563aaeccd0a5c6312b0451ee2330fc0b2c6a61f", func := "foolscap/foolscaplaw7.CharsMove", spec := "charsMove", apart := false, narrowed := true }
def CharsMoveUptoSaid : Prop := charsMoveUptoRow.holds Try.pinned (OpenSpec.upto charsMoveSpec)

end Rows
end Go.Proofs.Ytmafieomlhpdeaa
