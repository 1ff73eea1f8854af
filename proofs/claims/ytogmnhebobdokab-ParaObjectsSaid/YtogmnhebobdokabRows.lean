/-
  No cell of these rows narrows 'for every input' (looked for: loops, veiled, ifaces, maps, wideKeys, modest, calm, conditions, laid).
  DERIVED. THE GIVEN ROWS OF THIS SEAT. 12 by the template 'for every input the law returns true; each argument reads behind the call as it read before'; 0 by the template 'total and deterministic' (their statements: YtogmnhebobdokabTotals.lean).
  GIVEN WITH THE SEED: the statements are not yours to turn. If you find one false, say at which input.
  Laid BY PROGRAM, IN A SANDBOX (cutbox-rows.mjs): the forced cells as the released guide's own fill.sh prints them over the translation 2a0c2def36c1eb41… (all of the seat's roots in one cut). By AI agents, Wed Nov 11 2026. No macro, syntax, notation, axiom, sorry.
-/
import Derived.Test.YtogmnhebobdokabChecked
import GoSem.Claim
import GoSem.ClaimJoined
import GoSem.ClaimMapViews
import Derived.JoinedTies
import Derived.KernelRfl
namespace Go.Proofs.Ytogmnhebobdokab
/- THE CELL 'sum', in the pinned program and in every row, IS THE sha256 OF THE DUMP (.gsa) THAT YtogmnhebobdokabProg.lean LOADS. Nothing in Lean hashes anything: it is a label: what it is worth is what the hold of that sum in a sandbox is worth. -/
noncomputable def Try.pinned : Pinned := { name := "ytogmnhebobdokab", sum := "2a0c2def36c1eb41c4cc81b2b47b5e06d5d6c90a22860bf5ed71e35fc70eb8d5", checked := Try.checked }
namespace Rows
def none {H : Type} : Left H := { results := [], args := [] }

/-- 'foolscaplaw11.PairDeep': WHATEVER THE INPUT: true; the input reads as it did. -/
def pairDeepSpec : ChangeSpec := { name := "pairDeep", fn := fun _ => fun
  | [d1, d2] => { results := [.lit (.bool true)], args := [d1, d2] }
  | _ => none }
def pairDeepRow : OpenClaim := { program := "ytogmnhebobdokab", sum := "2a0c2def36c1eb41c4cc81b2b47b5e06d5d6c90a22860bf5ed71e35fc70eb8d5", func := "foolscap/foolscaplaw11.PairDeep", spec := "pairDeep", apart := false }
def PairDeepSaid : Prop := pairDeepRow.holds Try.pinned (OpenSpec.ofChange pairDeepSpec)

/-- ITS FALSE NEIGHBOUR: 'it returns false'. Refute it at one input. -/
def pairDeepWrong : ChangeSpec := { name := "pairDeep", fn := fun _ => fun
  | [d1, d2] => { results := [.lit (.bool false)], args := [d1, d2] }
  | _ => none }
def PairDeepWrongFalsely : Prop := pairDeepRow.holds Try.pinned (OpenSpec.ofChange pairDeepWrong)

/-- 'foolscaplaw17.BracketObjects': WHATEVER THE INPUT: true; the input reads as it did. -/
def bracketObjectsSpec : ChangeSpec := { name := "bracketObjects", fn := fun _ => fun
  | [d1, d2, d3, d4, d5, d6] => { results := [.lit (.bool true)], args := [d1, d2, d3, d4, d5, d6] }
  | _ => none }
def bracketObjectsRow : OpenClaim := { program := "ytogmnhebobdokab", sum := "2a0c2def36c1eb41c4cc81b2b47b5e06d5d6c90a22860bf5ed71e35fc70eb8d5", func := "foolscap/foolscaplaw17.BracketObjects", spec := "bracketObjects", apart := false }
def BracketObjectsSaid : Prop := bracketObjectsRow.holds Try.pinned (OpenSpec.ofChange bracketObjectsSpec)

/-- ITS FALSE NEIGHBOUR: 'it returns false'. Refute it at one input. -/
def bracketObjectsWrong : ChangeSpec := { name := "bracketObjects", fn := fun _ => fun
  | [d1, d2, d3, d4, d5, d6] => { results := [.lit (.bool false)], args := [d1, d2, d3, d4, d5, d6] }
  | _ => none }
def BracketObjectsWrongFalsely : Prop := bracketObjectsRow.holds Try.pinned (OpenSpec.ofChange bracketObjectsWrong)

/-- 'foolscaplaw17.BracketAround': WHATEVER THE INPUT: true; the input reads as it did. -/
def bracketAroundSpec : ChangeSpec := { name := "bracketAround", fn := fun _ => fun
  | [d1, d2, d3, d4, d5] => { results := [.lit (.bool true)], args := [d1, d2, d3, d4, d5] }
  | _ => none }
def bracketAroundRow : OpenClaim := { program := "ytogmnhebobdokab", sum := "2a0c2def36c1eb41c4cc81b2b47b5e06d5d6c90a22860bf5ed71e35fc70eb8d5", func := "foolscap/foolscaplaw17.BracketAround", spec := "bracketAround", apart := false }
def BracketAroundSaid : Prop := bracketAroundRow.holds Try.pinned (OpenSpec.ofChange bracketAroundSpec)

/-- ITS FALSE NEIGHBOUR: 'it returns false'. Refute it at one input. -/
def bracketAroundWrong : ChangeSpec := { name := "bracketAround", fn := fun _ => fun
  | [d1, d2, d3, d4, d5] => { results := [.lit (.bool false)], args := [d1, d2, d3, d4, d5] }
  | _ => none }
def BracketAroundWrongFalsely : Prop := bracketAroundRow.holds Try.pinned (OpenSpec.ofChange bracketAroundWrong)

/-- 'foolscaplaw17.BracketDeep': WHATEVER THE INPUT: true; the input reads as it did. -/
def bracketDeepSpec : ChangeSpec := { name := "bracketDeep", fn := fun _ => fun
  | [d1, d2, d3, d4] => { results := [.lit (.bool true)], args := [d1, d2, d3, d4] }
  | _ => none }
def bracketDeepRow : OpenClaim := { program := "ytogmnhebobdokab", sum := "2a0c2def36c1eb41c4cc81b2b47b5e06d5d6c90a22860bf5ed71e35fc70eb8d5", func := "foolscap/foolscaplaw17.BracketDeep", spec := "bracketDeep", apart := false }
def BracketDeepSaid : Prop := bracketDeepRow.holds Try.pinned (OpenSpec.ofChange bracketDeepSpec)

/-- ITS FALSE NEIGHBOUR: 'it returns false'. Refute it at one input. -/
def bracketDeepWrong : ChangeSpec := { name := "bracketDeep", fn := fun _ => fun
  | [d1, d2, d3, d4] => { results := [.lit (.bool false)], args := [d1, d2, d3, d4] }
  | _ => none }
def BracketDeepWrongFalsely : Prop := bracketDeepRow.holds Try.pinned (OpenSpec.ofChange bracketDeepWrong)

/-- 'foolscaplaw10.ParaMove': WHATEVER THE INPUT: true; the input reads as it did. -/
def paraMoveSpec : ChangeSpec := { name := "paraMove", fn := fun _ => fun
  | [d1, d2, d3, d4, d5, d6] => { results := [.lit (.bool true)], args := [d1, d2, d3, d4, d5, d6] }
  | _ => none }
def paraMoveRow : OpenClaim := { program := "ytogmnhebobdokab", sum := "2a0c2def36c1eb41c4cc81b2b47b5e06d5d6c90a22860bf5ed71e35fc70eb8d5", func := "foolscap/foolscaplaw10.ParaMove", spec := "paraMove", unfollowed := true, recurses := true, apart := false }
def ParaMoveSaid : Prop := paraMoveRow.holds Try.pinned (OpenSpec.ofChange paraMoveSpec)

/-- ITS FALSE NEIGHBOUR: 'it returns false'. Refute it at one input. -/
def paraMoveWrong : ChangeSpec := { name := "paraMove", fn := fun _ => fun
  | [d1, d2, d3, d4, d5, d6] => { results := [.lit (.bool false)], args := [d1, d2, d3, d4, d5, d6] }
  | _ => none }
def ParaMoveWrongFalsely : Prop := paraMoveRow.holds Try.pinned (OpenSpec.ofChange paraMoveWrong)

/-- 'foolscaplaw10.ParaSentences': WHATEVER THE INPUT: true; the input reads as it did. -/
def paraSentencesSpec : ChangeSpec := { name := "paraSentences", fn := fun _ => fun
  | [d1, d2] => { results := [.lit (.bool true)], args := [d1, d2] }
  | _ => none }
def paraSentencesRow : OpenClaim := { program := "ytogmnhebobdokab", sum := "2a0c2def36c1eb41c4cc81b2b47b5e06d5d6c90a22860bf5ed71e35fc70eb8d5", func := "foolscap/foolscaplaw10.ParaSentences", spec := "paraSentences", unfollowed := true, recurses := true, apart := false }
def ParaSentencesSaid : Prop := paraSentencesRow.holds Try.pinned (OpenSpec.ofChange paraSentencesSpec)

/-- ITS FALSE NEIGHBOUR: 'it returns false'. Refute it at one input. -/
def paraSentencesWrong : ChangeSpec := { name := "paraSentences", fn := fun _ => fun
  | [d1, d2] => { results := [.lit (.bool false)], args := [d1, d2] }
  | _ => none }
def ParaSentencesWrongFalsely : Prop := paraSentencesRow.holds Try.pinned (OpenSpec.ofChange paraSentencesWrong)

/-- 'foolscaplaw10.ParaSteps': WHATEVER THE INPUT: true; the input reads as it did. -/
def paraStepsSpec : ChangeSpec := { name := "paraSteps", fn := fun _ => fun
  | [d1, d2, d3, d4, d5, d6] => { results := [.lit (.bool true)], args := [d1, d2, d3, d4, d5, d6] }
  | _ => none }
def paraStepsRow : OpenClaim := { program := "ytogmnhebobdokab", sum := "2a0c2def36c1eb41c4cc81b2b47b5e06d5d6c90a22860bf5ed71e35fc70eb8d5", func := "foolscap/foolscaplaw10.ParaSteps", spec := "paraSteps", unfollowed := true, recurses := true, apart := false }
def ParaStepsSaid : Prop := paraStepsRow.holds Try.pinned (OpenSpec.ofChange paraStepsSpec)

/-- ITS FALSE NEIGHBOUR: 'it returns false'. Refute it at one input. -/
def paraStepsWrong : ChangeSpec := { name := "paraSteps", fn := fun _ => fun
  | [d1, d2, d3, d4, d5, d6] => { results := [.lit (.bool false)], args := [d1, d2, d3, d4, d5, d6] }
  | _ => none }
def ParaStepsWrongFalsely : Prop := paraStepsRow.holds Try.pinned (OpenSpec.ofChange paraStepsWrong)

/-- 'foolscaplaw10.ParaEmpty': WHATEVER THE INPUT: true; the input reads as it did. -/
def paraEmptySpec : ChangeSpec := { name := "paraEmpty", fn := fun _ => fun
  | [d1, d2] => { results := [.lit (.bool true)], args := [d1, d2] }
  | _ => none }
def paraEmptyRow : OpenClaim := { program := "ytogmnhebobdokab", sum := "2a0c2def36c1eb41c4cc81b2b47b5e06d5d6c90a22860bf5ed71e35fc70eb8d5", func := "foolscap/foolscaplaw10.ParaEmpty", spec := "paraEmpty", unfollowed := true, recurses := true, apart := false }
def ParaEmptySaid : Prop := paraEmptyRow.holds Try.pinned (OpenSpec.ofChange paraEmptySpec)

/-- ITS FALSE NEIGHBOUR: 'it returns false'. Refute it at one input. -/
def paraEmptyWrong : ChangeSpec := { name := "paraEmpty", fn := fun _ => fun
  | [d1, d2] => { results := [.lit (.bool false)], args := [d1, d2] }
  | _ => none }
def ParaEmptyWrongFalsely : Prop := paraEmptyRow.holds Try.pinned (OpenSpec.ofChange paraEmptyWrong)

/-- 'foolscaplaw10.SentOrder': WHATEVER THE INPUT: true; the input reads as it did. -/
def sentOrderSpec : ChangeSpec := { name := "sentOrder", fn := fun _ => fun
  | [d] => { results := [.lit (.bool true)], args := [d] }
  | _ => none }
def sentOrderRow : OpenClaim := { program := "ytogmnhebobdokab", sum := "2a0c2def36c1eb41c4cc81b2b47b5e06d5d6c90a22860bf5ed71e35fc70eb8d5", func := "foolscap/foolscaplaw10.SentOrder", spec := "sentOrder", unfollowed := true, recurses := true, apart := false }
def SentOrderSaid : Prop := sentOrderRow.holds Try.pinned (OpenSpec.ofChange sentOrderSpec)

/-- ITS FALSE NEIGHBOUR: 'it returns false'. Refute it at one input. -/
def sentOrderWrong : ChangeSpec := { name := "sentOrder", fn := fun _ => fun
  | [d] => { results := [.lit (.bool false)], args := [d] }
  | _ => none }
def SentOrderWrongFalsely : Prop := sentOrderRow.holds Try.pinned (OpenSpec.ofChange sentOrderWrong)

/-- 'foolscaplaw18.ParaBlocks': WHATEVER THE INPUT: true; the input reads as it did. -/
def paraBlocksSpec : ChangeSpec := { name := "paraBlocks", fn := fun _ => fun
  | [d1, d2] => { results := [.lit (.bool true)], args := [d1, d2] }
  | _ => none }
def paraBlocksRow : OpenClaim := { program := "ytogmnhebobdokab", sum := "2a0c2def36c1eb41c4cc81b2b47b5e06d5d6c90a22860bf5ed71e35fc70eb8d5", func := "foolscap/foolscaplaw18.ParaBlocks", spec := "paraBlocks", unfollowed := true, recurses := true, apart := false }
def ParaBlocksSaid : Prop := paraBlocksRow.holds Try.pinned (OpenSpec.ofChange paraBlocksSpec)

/-- ITS FALSE NEIGHBOUR: 'it returns false'. Refute it at one input. -/
def paraBlocksWrong : ChangeSpec := { name := "paraBlocks", fn := fun _ => fun
  | [d1, d2] => { results := [.lit (.bool false)], args := [d1, d2] }
  | _ => none }
def ParaBlocksWrongFalsely : Prop := paraBlocksRow.holds Try.pinned (OpenSpec.ofChange paraBlocksWrong)

/-- 'foolscaplaw18.ParaObjects': WHATEVER THE INPUT: true; the input reads as it did. -/
def paraObjectsSpec : ChangeSpec := { name := "paraObjects", fn := fun _ => fun
  | [d1, d2, d3, d4, d5] => { results := [.lit (.bool true)], args := [d1, d2, d3, d4, d5] }
  | _ => none }
def paraObjectsRow : OpenClaim := { program := "ytogmnhebobdokab", sum := "2a0c2def36c1eb41c4cc81b2b47b5e06d5d6c90a22860bf5ed71e35fc70eb8d5", func := "foolscap/foolscaplaw18.ParaObjects", spec := "paraObjects", unfollowed := true, recurses := true, apart := false }
def ParaObjectsSaid : Prop := paraObjectsRow.holds Try.pinned (OpenSpec.ofChange paraObjectsSpec)

/-- ITS FALSE NEIGHBOUR: 'it returns false'. Refute it at one input. -/
def paraObjectsWrong : ChangeSpec := { name := "paraObjects", fn := fun _ => fun
  | [d1, d2, d3, d4, d5] => { results := [.lit (.bool false)], args := [d1, d2, d3, d4, d5] }
  | _ => none }
def ParaObjectsWrongFalsely : Prop := paraObjectsRow.holds Try.pinned (OpenSpec.ofChange paraObjectsWrong)

/-- 'foolscaplaw18.ParaCounts': WHATEVER THE INPUT: true; the input reads as it did. -/
def paraCountsSpec : ChangeSpec := { name := "paraCounts", fn := fun _ => fun
  | [d1, d2, d3] => { results := [.lit (.bool true)], args := [d1, d2, d3] }
  | _ => none }
def paraCountsRow : OpenClaim := { program := "ytogmnhebobdokab", sum := "2a0c2def36c1eb41c4cc81b2b47b5e06d5d6c90a22860bf5ed71e35fc70eb8d5", func := "foolscap/foolscaplaw18.ParaCounts", spec := "paraCounts", unfollowed := true, recurses := true, apart := false }
def ParaCountsSaid : Prop := paraCountsRow.holds Try.pinned (OpenSpec.ofChange paraCountsSpec)

/-- ITS FALSE NEIGHBOUR: 'it returns false'. Refute it at one input. -/
def paraCountsWrong : ChangeSpec := { name := "paraCounts", fn := fun _ => fun
  | [d1, d2, d3] => { results := [.lit (.bool false)], args := [d1, d2, d3] }
  | _ => none }
def ParaCountsWrongFalsely : Prop := paraCountsRow.holds Try.pinned (OpenSpec.ofChange paraCountsWrong)

/- THE SECOND FORM. 'bulk': how many values and letters a reading holds, each counted each time it is reached (what is shared counts as often as it is met; a slice's spare places count too). A statement '..UptoSaid' is the law's where the arguments, and the package variables that the reading takes, are together of bulk at most 1048576: NARROWER than '..Said'. Prove '..Said' where nothing that the law and all that it calls make is longer than what came in: it says more and counts as full. Else prove '..UptoSaid'. A law counts once. -/
mutual
def uptoBulk {H : Type} : DataW H → Nat
  | .lit (.string bytes) => bytes.length + 1
  | .lit _ => 1
  | .nil => 1
  | .ptr d => uptoBulk d + 1
  | .slice elems spare => uptoBulkAll elems + uptoBulkAll spare + 1
  | .agg parts => uptoBulkAll parts + 1
  | .iface _ d => uptoBulk d + 1
  | .map entries => uptoBulkEntries entries + 1
  | .held _ => 1
def uptoBulkAll {H : Type} : List (DataW H) → Nat
  | [] => 0
  | d :: r => uptoBulk d + uptoBulkAll r
def uptoBulkEntries {H : Type} : List (Lit × DataW H) → Nat
  | [] => 0
  | x :: r => uptoBulkEntry x + uptoBulkEntries r
def uptoBulkEntry {H : Type} : Lit × DataW H → Nat
  | (.string bytes, d) => bytes.length + uptoBulk d + 1
  | (_, d) => uptoBulk d + 1
 end
def uptoSmall : (H : Type) → List (DataW H) → Bool := fun _ ds => decide (uptoBulkAll ds ≤ 1048576)
def OpenSpec.upto (s : _root_.Go.ChangeSpec) : _root_.Go.OpenSpec := { _root_.Go.OpenSpec.ofChange s with cond := some uptoSmall }

/-- 'foolscaplaw11.PairDeep', WHERE WHAT IT READS IS OF BULK AT MOST 1048576: true; the input reads as it did. -/
def pairDeepUptoRow : OpenClaim := { program := "ytogmnhebobdokab", sum := "2a0c2def36c1eb41c4cc81b2b47b5e06d5d6c90a22860bf5ed71e35fc70eb8d5", func := "foolscap/foolscaplaw11.PairDeep", spec := "pairDeep", apart := false, narrowed := true }
def PairDeepUptoSaid : Prop := pairDeepUptoRow.holds Try.pinned (OpenSpec.upto pairDeepSpec)

/-- 'foolscaplaw17.BracketObjects', WHERE WHAT IT READS IS OF BULK AT MOST 1048576: true; the input reads as it did. -/
def bracketObjectsUptoRow : OpenClaim := { program := "ytogmnhebobdokab", sum := "2a0c2def36c1eb41c4cc81b2b47b5e06d5d6c90a22860bf5ed71e35fc70eb8d5", func := "foolscap/foolscaplaw17.BracketObjects", spec := "bracketObjects", apart := false, narrowed := true }
def BracketObjectsUptoSaid : Prop := bracketObjectsUptoRow.holds Try.pinned (OpenSpec.upto bracketObjectsSpec)

/-- 'foolscaplaw17.BracketAround', WHERE WHAT IT READS IS OF BULK AT MOST 1048576: true; the input reads as it did. -/
def bracketAroundUptoRow : OpenClaim := { program := "ytogmnhebobdokab", sum := "2a0c2def36c1eb41c4cc81b2b47b5e06d5d6c90a22860bf5ed71e35fc70eb8d5", func := "foolscap/foolscaplaw17.BracketAround", spec := "bracketAround", apart := false, narrowed := true }
def BracketAroundUptoSaid : Prop := bracketAroundUptoRow.holds Try.pinned (OpenSpec.upto bracketAroundSpec)

/-- 'foolscaplaw17.BracketDeep', WHERE WHAT IT READS IS OF BULK AT MOST 1048576: true; the input reads as it did. -/
def bracketDeepUptoRow : OpenClaim := { program := "ytogmnhebobdokab", sum := "2a0c2def36c1eb41c4cc81b2b47b5e06d5d6c90a22860bf5ed71e35fc70eb8d5", func := "foolscap/foolscaplaw17.BracketDeep", spec := "bracketDeep", apart := false, narrowed := true }
def BracketDeepUptoSaid : Prop := bracketDeepUptoRow.holds Try.pinned (OpenSpec.upto bracketDeepSpec)

/-- 'foolscaplaw10.ParaMove', WHERE WHAT IT READS IS OF BULK AT MOST 1048576: true; the input reads as it did. -/
def paraMoveUptoRow : OpenClaim := { program := "ytogmnhebobdokab", sum := "2a0c2def36c1eb41c4cc81b2b47b5e06d5d6c90a22860bf5ed71e35fc70eb8d5", func := "foolscap/foolscaplaw10.ParaMove", spec := "paraMove", unfollowed := true, recurses := true, apart := false, narrowed := true }
def ParaMoveUptoSaid : Prop := paraMoveUptoRow.holds Try.pinned (OpenSpec.upto paraMoveSpec)

/-- 'foolscaplaw10.ParaSentences', WHERE WHAT IT READS IS OF BULK AT MOST 1048576: true; the input reads as it did. -/
def paraSentencesUptoRow : OpenClaim := { program := "ytogmnhebobdokab", sum := "2a0c2def36c1eb41c4cc81b2b47b5e06d5d6c90a22860bf5ed71e35fc70eb8d5", func := "foolscap/foolscaplaw10.ParaSentences", spec := "paraSentences", unfollowed := true, recurses := true, apart := false, narrowed := true }
def ParaSentencesUptoSaid : Prop := paraSentencesUptoRow.holds Try.pinned (OpenSpec.upto paraSentencesSpec)

/-- 'foolscaplaw10.ParaSteps', WHERE WHAT IT READS IS OF BULK AT MOST 1048576: true; the input reads as it did. -/
def paraStepsUptoRow : OpenClaim := { program := "ytogmnhebobdokab", sum := "2a0c2def36c1eb41c4cc81b2b47b5e06d5d6c90a22860bf5ed71e35fc70eb8d5", func := "foolscap/foolscaplaw10.ParaSteps", spec := "paraSteps", unfollowed := true, recurses := true, apart := false, narrowed := true }
def ParaStepsUptoSaid : Prop := paraStepsUptoRow.holds Try.pinned (OpenSpec.upto paraStepsSpec)

/-- 'foolscaplaw10.ParaEmpty', WHERE WHAT IT READS IS OF BULK AT MOST 1048576: true; the input reads as it did. -/
def paraEmptyUptoRow : OpenClaim := { program := "ytogmnhebobdokab", sum := "2a0c2def36c1eb41c4cc81b2b47b5e06d5d6c90a22860bf5ed71e35fc70eb8d5", func := "foolscap/foolscaplaw10.ParaEmpty", spec := "paraEmpty", unfollowed := true, recurses := true, apart := false, narrowed := true }
def ParaEmptyUptoSaid : Prop := paraEmptyUptoRow.holds Try.pinned (OpenSpec.upto paraEmptySpec)

/-- 'foolscaplaw10.SentOrder', WHERE WHAT IT READS IS OF BULK AT MOST 1048576: true; the input reads as it did. -/
def sentOrderUptoRow : OpenClaim := { program := "ytogmnhebobdokab", sum := "2a0c2def36c1eb41c4cc81b2b47b5e06d5d6c90a22860bf5ed71e35fc70eb8d5", func := "foolscap/foolscaplaw10.SentOrder", spec := "sentOrder", unfollowed := true, recurses := true, apart := false, narrowed := true }
def SentOrderUptoSaid : Prop := sentOrderUptoRow.holds Try.pinned (OpenSpec.upto sentOrderSpec)

/-- 'foolscaplaw18.ParaBlocks', WHERE WHAT IT READS IS OF BULK AT MOST 1048576: true; the input reads as it did. -/
def paraBlocksUptoRow : OpenClaim := { program := "ytogmnhebobdokab", sum := "2a0c2def36c1eb41c4cc81b2b47b5e06d5d6c90a22860bf5ed71e35fc70eb8d5", func := "foolscap/foolscaplaw18.ParaBlocks", spec := "paraBlocks", unfollowed := true, recurses := true, apart := false, narrowed := true }
def ParaBlocksUptoSaid : Prop := paraBlocksUptoRow.holds Try.pinned (OpenSpec.upto paraBlocksSpec)

/-- 'foolscaplaw18.ParaObjects', WHERE WHAT IT READS IS OF BULK AT MOST 1048576: true; the input reads as it did. -/
def paraObjectsUptoRow : OpenClaim := { program := "ytogmnhebobdokab", sum := "2a0c2def36c1eb41c4cc81b2b47b5e06d5d6c90a22860bf5ed71e35fc70eb8d5", func := "foolscap/foolscaplaw18.ParaObjects", spec := "paraObjects", unfollowed := true, recurses := true, apart := false, narrowed := true }
def ParaObjectsUptoSaid : Prop := paraObjectsUptoRow.holds Try.pinned (OpenSpec.upto paraObjectsSpec)

/-- 'foolscaplaw18.ParaCounts', WHERE WHAT IT READS IS OF BULK AT MOST 1048576: true; the input reads as it did. -/
def paraCountsUptoRow : OpenClaim := { program := "ytogmnhebobdokab", sum := "2a0c2def36c1eb41c4cc81b2b47b5e06d5d6c90a22860bf5ed71e35fc70eb8d5", func := "foolscap/foolscaplaw18.ParaCounts", spec := "paraCounts", unfollowed := true, recurses := true, apart := false, narrowed := true }
def ParaCountsUptoSaid : Prop := paraCountsUptoRow.holds Try.pinned (OpenSpec.upto paraCountsSpec)

end Rows
end Go.Proofs.Ytogmnhebobdokab
