/-
  No cell of these rows narrows 'for every input' (looked for: loops, veiled, ifaces, maps, wideKeys, modest, calm, conditions, laid).
  DERIVED. THE GIVEN ROWS OF THIS SEAT. 12 by the template 'for every input the law returns true; each argument reads behind the call as it read before'; 0 by the template 'total and deterministic' (their statements: YtigbglagfbbmjaaTotals.lean).
  GIVEN WITH THE SEED: the statements are not yours to turn. If you find one false, say at which input.
  Laid BY PROGRAM, IN A SANDBOX (cutbox-rows.mjs): the forced cells as the released guide's own fill.sh prints them over the translation 5bd8591cf505722f… (all of the seat's roots in one cut). By AI agents, Wed Nov 11 2026. No macro, syntax, notation, axiom, sorry.
-/
import Derived.Test.YtigbglagfbbmjaaChecked
import GoSem.Claim
import GoSem.ClaimJoined
import GoSem.ClaimMapViews
import Derived.JoinedTies
import Derived.KernelRfl
namespace Go.Proofs.Ytigbglagfbbmjaa
/- THE CELL 'sum', in the pinned program and in every row, IS THE sha256 OF THE DUMP (.gsa) THAT YtigbglagfbbmjaaProg.lean LOADS. Nothing in Lean hashes anything: it is a label: what it is worth is what the hold of that sum in a sandbox is worth. -/
noncomputable def Try.pinned : Pinned := { name := "ytigbglagfbbmjaa", sum := "5bd8591cf505722fca7a622a0b6e7c16732f13f57ff89c8c6b31cddb1e7f9958", checked := Try.checked }
namespace Rows
def none {H : Type} : Left H := { results := [], args := [] }

/-- 'breviarylaw20.ReachTells': WHATEVER THE INPUT: true; the input reads as it did. -/
def reachTellsSpec : ChangeSpec := { name := "reachTells", fn := fun _ => fun
  | [d1, d2, d3] => { results := [.lit (.bool true)], args := [d1, d2, d3] }
  | _ => none }
def reachTellsRow : OpenClaim := { program := "ytigbglagfbbmjaa", sum := "5bd8591cf505722fca7a622a0b6e7c16732f13f57ff89c8c6b31cddb1e7f9958", func := "breviary/breviarylaw20.ReachTells", spec := "reachTells", unfollowed := true, recurses := true, apart := false }
def ReachTellsSaid : Prop := reachTellsRow.holds Try.pinned (OpenSpec.ofChange reachTellsSpec)

/-- ITS FALSE NEIGHBOUR: 'it returns false'. Refute it at one input. -/
def reachTellsWrong : ChangeSpec := { name := "reachTells", fn := fun _ => fun
  | [d1, d2, d3] => { results := [.lit (.bool false)], args := [d1, d2, d3] }
  | _ => none }
def ReachTellsWrongFalsely : Prop := reachTellsRow.holds Try.pinned (OpenSpec.ofChange reachTellsWrong)

/-- 'breviarylaw20.ReachParts': WHATEVER THE INPUT: true; the input reads as it did. -/
def reachPartsSpec : ChangeSpec := { name := "reachParts", fn := fun _ => fun
  | [d1, d2, d3] => { results := [.lit (.bool true)], args := [d1, d2, d3] }
  | _ => none }
def reachPartsRow : OpenClaim := { program := "ytigbglagfbbmjaa", sum := "5bd8591cf505722fca7a622a0b6e7c16732f13f57ff89c8c6b31cddb1e7f9958", func := "breviary/breviarylaw20.ReachParts", spec := "reachParts", unfollowed := true, recurses := true, apart := false }
def ReachPartsSaid : Prop := reachPartsRow.holds Try.pinned (OpenSpec.ofChange reachPartsSpec)

/-- ITS FALSE NEIGHBOUR: 'it returns false'. Refute it at one input. -/
def reachPartsWrong : ChangeSpec := { name := "reachParts", fn := fun _ => fun
  | [d1, d2, d3] => { results := [.lit (.bool false)], args := [d1, d2, d3] }
  | _ => none }
def ReachPartsWrongFalsely : Prop := reachPartsRow.holds Try.pinned (OpenSpec.ofChange reachPartsWrong)

/-- 'breviarylaw20.ReachEnds': WHATEVER THE INPUT: true; the input reads as it did. -/
def reachEndsSpec : ChangeSpec := { name := "reachEnds", fn := fun _ => fun
  | [d1, d2, d3] => { results := [.lit (.bool true)], args := [d1, d2, d3] }
  | _ => none }
def reachEndsRow : OpenClaim := { program := "ytigbglagfbbmjaa", sum := "5bd8591cf505722fca7a622a0b6e7c16732f13f57ff89c8c6b31cddb1e7f9958", func := "breviary/breviarylaw20.ReachEnds", spec := "reachEnds", unfollowed := true, recurses := true, apart := false }
def ReachEndsSaid : Prop := reachEndsRow.holds Try.pinned (OpenSpec.ofChange reachEndsSpec)

/-- ITS FALSE NEIGHBOUR: 'it returns false'. Refute it at one input. -/
def reachEndsWrong : ChangeSpec := { name := "reachEnds", fn := fun _ => fun
  | [d1, d2, d3] => { results := [.lit (.bool false)], args := [d1, d2, d3] }
  | _ => none }
def ReachEndsWrongFalsely : Prop := reachEndsRow.holds Try.pinned (OpenSpec.ofChange reachEndsWrong)

/-- 'breviarylaw21.ChainRises': WHATEVER THE INPUT: true; the input reads as it did. -/
def chainRisesSpec : ChangeSpec := { name := "chainRises", fn := fun _ => fun
  | [d1, d2] => { results := [.lit (.bool true)], args := [d1, d2] }
  | _ => none }
def chainRisesRow : OpenClaim := { program := "ytigbglagfbbmjaa", sum := "5bd8591cf505722fca7a622a0b6e7c16732f13f57ff89c8c6b31cddb1e7f9958", func := "breviary/breviarylaw21.ChainRises", spec := "chainRises", unfollowed := true, recurses := true, apart := false }
def ChainRisesSaid : Prop := chainRisesRow.holds Try.pinned (OpenSpec.ofChange chainRisesSpec)

/-- ITS FALSE NEIGHBOUR: 'it returns false'. Refute it at one input. -/
def chainRisesWrong : ChangeSpec := { name := "chainRises", fn := fun _ => fun
  | [d1, d2] => { results := [.lit (.bool false)], args := [d1, d2] }
  | _ => none }
def ChainRisesWrongFalsely : Prop := chainRisesRow.holds Try.pinned (OpenSpec.ofChange chainRisesWrong)

/-- 'breviarylaw05.FlowParts': WHATEVER THE INPUT: true; the input reads as it did. -/
def flowPartsSpec : ChangeSpec := { name := "flowParts", fn := fun _ => fun
  | [d1, d2] => { results := [.lit (.bool true)], args := [d1, d2] }
  | _ => none }
def flowPartsRow : OpenClaim := { program := "ytigbglagfbbmjaa", sum := "5bd8591cf505722fca7a622a0b6e7c16732f13f57ff89c8c6b31cddb1e7f9958", func := "breviary/breviarylaw05.FlowParts", spec := "flowParts", unfollowed := true, recurses := true, apart := false }
def FlowPartsSaid : Prop := flowPartsRow.holds Try.pinned (OpenSpec.ofChange flowPartsSpec)

/-- ITS FALSE NEIGHBOUR: 'it returns false'. Refute it at one input. -/
def flowPartsWrong : ChangeSpec := { name := "flowParts", fn := fun _ => fun
  | [d1, d2] => { results := [.lit (.bool false)], args := [d1, d2] }
  | _ => none }
def FlowPartsWrongFalsely : Prop := flowPartsRow.holds Try.pinned (OpenSpec.ofChange flowPartsWrong)

/-- 'breviarylaw05.FlowEnds': WHATEVER THE INPUT: true; the input reads as it did. -/
def flowEndsSpec : ChangeSpec := { name := "flowEnds", fn := fun _ => fun
  | [d1, d2] => { results := [.lit (.bool true)], args := [d1, d2] }
  | _ => none }
def flowEndsRow : OpenClaim := { program := "ytigbglagfbbmjaa", sum := "5bd8591cf505722fca7a622a0b6e7c16732f13f57ff89c8c6b31cddb1e7f9958", func := "breviary/breviarylaw05.FlowEnds", spec := "flowEnds", unfollowed := true, recurses := true, apart := false }
def FlowEndsSaid : Prop := flowEndsRow.holds Try.pinned (OpenSpec.ofChange flowEndsSpec)

/-- ITS FALSE NEIGHBOUR: 'it returns false'. Refute it at one input. -/
def flowEndsWrong : ChangeSpec := { name := "flowEnds", fn := fun _ => fun
  | [d1, d2] => { results := [.lit (.bool false)], args := [d1, d2] }
  | _ => none }
def FlowEndsWrongFalsely : Prop := flowEndsRow.holds Try.pinned (OpenSpec.ofChange flowEndsWrong)

/-- 'breviarylaw12.MarksTell': WHATEVER THE INPUT: true; the input reads as it did. -/
def marksTellSpec : ChangeSpec := { name := "marksTell", fn := fun _ => fun
  | [d1, d2] => { results := [.lit (.bool true)], args := [d1, d2] }
  | _ => none }
def marksTellRow : OpenClaim := { program := "ytigbglagfbbmjaa", sum := "5bd8591cf505722fca7a622a0b6e7c16732f13f57ff89c8c6b31cddb1e7f9958", func := "breviary/breviarylaw12.MarksTell", spec := "marksTell", unfollowed := true, recurses := true, apart := false }
def MarksTellSaid : Prop := marksTellRow.holds Try.pinned (OpenSpec.ofChange marksTellSpec)

/-- ITS FALSE NEIGHBOUR: 'it returns false'. Refute it at one input. -/
def marksTellWrong : ChangeSpec := { name := "marksTell", fn := fun _ => fun
  | [d1, d2] => { results := [.lit (.bool false)], args := [d1, d2] }
  | _ => none }
def MarksTellWrongFalsely : Prop := marksTellRow.holds Try.pinned (OpenSpec.ofChange marksTellWrong)

/-- 'breviarylaw12.MarksPlay': WHATEVER THE INPUT: true; the input reads as it did. -/
def marksPlaySpec : ChangeSpec := { name := "marksPlay", fn := fun _ => fun
  | [d1, d2, d3] => { results := [.lit (.bool true)], args := [d1, d2, d3] }
  | _ => none }
def marksPlayRow : OpenClaim := { program := "ytigbglagfbbmjaa", sum := "5bd8591cf505722fca7a622a0b6e7c16732f13f57ff89c8c6b31cddb1e7f9958", func := "breviary/breviarylaw12.MarksPlay", spec := "marksPlay", unfollowed := true, recurses := true, apart := false }
def MarksPlaySaid : Prop := marksPlayRow.holds Try.pinned (OpenSpec.ofChange marksPlaySpec)

/-- ITS FALSE NEIGHBOUR: 'it returns false'. Refute it at one input. -/
def marksPlayWrong : ChangeSpec := { name := "marksPlay", fn := fun _ => fun
  | [d1, d2, d3] => { results := [.lit (.bool false)], args := [d1, d2, d3] }
  | _ => none }
def MarksPlayWrongFalsely : Prop := marksPlayRow.holds Try.pinned (OpenSpec.ofChange marksPlayWrong)

/-- 'breviarylaw05.FlowMakes': WHATEVER THE INPUT: true; the input reads as it did. -/
def flowMakesSpec : ChangeSpec := { name := "flowMakes", fn := fun _ => fun
  | [d1, d2, d3] => { results := [.lit (.bool true)], args := [d1, d2, d3] }
  | _ => none }
def flowMakesRow : OpenClaim := { program := "ytigbglagfbbmjaa", sum := "5bd8591cf505722fca7a622a0b6e7c16732f13f57ff89c8c6b31cddb1e7f9958", func := "breviary/breviarylaw05.FlowMakes", spec := "flowMakes", unfollowed := true, recurses := true, apart := false }
def FlowMakesSaid : Prop := flowMakesRow.holds Try.pinned (OpenSpec.ofChange flowMakesSpec)

/-- ITS FALSE NEIGHBOUR: 'it returns false'. Refute it at one input. -/
def flowMakesWrong : ChangeSpec := { name := "flowMakes", fn := fun _ => fun
  | [d1, d2, d3] => { results := [.lit (.bool false)], args := [d1, d2, d3] }
  | _ => none }
def FlowMakesWrongFalsely : Prop := flowMakesRow.holds Try.pinned (OpenSpec.ofChange flowMakesWrong)

/-- 'breviarylaw18.LinesTell': WHATEVER THE INPUT: true; the input reads as it did. -/
def linesTellSpec : ChangeSpec := { name := "linesTell", fn := fun _ => fun
  | [d1, d2, d3] => { results := [.lit (.bool true)], args := [d1, d2, d3] }
  | _ => none }
def linesTellRow : OpenClaim := { program := "ytigbglagfbbmjaa", sum := "5bd8591cf505722fca7a622a0b6e7c16732f13f57ff89c8c6b31cddb1e7f9958", func := "breviary/breviarylaw18.LinesTell", spec := "linesTell", unfollowed := true, recurses := true, apart := false }
def LinesTellSaid : Prop := linesTellRow.holds Try.pinned (OpenSpec.ofChange linesTellSpec)

/-- ITS FALSE NEIGHBOUR: 'it returns false'. Refute it at one input. -/
def linesTellWrong : ChangeSpec := { name := "linesTell", fn := fun _ => fun
  | [d1, d2, d3] => { results := [.lit (.bool false)], args := [d1, d2, d3] }
  | _ => none }
def LinesTellWrongFalsely : Prop := linesTellRow.holds Try.pinned (OpenSpec.ofChange linesTellWrong)

/-- 'breviarylaw18.LinesJoin': WHATEVER THE INPUT: true; the input reads as it did. -/
def linesJoinSpec : ChangeSpec := { name := "linesJoin", fn := fun _ => fun
  | [d1, d2, d3] => { results := [.lit (.bool true)], args := [d1, d2, d3] }
  | _ => none }
def linesJoinRow : OpenClaim := { program := "ytigbglagfbbmjaa", sum := "5bd8591cf505722fca7a622a0b6e7c16732f13f57ff89c8c6b31cddb1e7f9958", func := "breviary/breviarylaw18.LinesJoin", spec := "linesJoin", unfollowed := true, recurses := true, apart := false }
def LinesJoinSaid : Prop := linesJoinRow.holds Try.pinned (OpenSpec.ofChange linesJoinSpec)

/-- ITS FALSE NEIGHBOUR: 'it returns false'. Refute it at one input. -/
def linesJoinWrong : ChangeSpec := { name := "linesJoin", fn := fun _ => fun
  | [d1, d2, d3] => { results := [.lit (.bool false)], args := [d1, d2, d3] }
  | _ => none }
def LinesJoinWrongFalsely : Prop := linesJoinRow.holds Try.pinned (OpenSpec.ofChange linesJoinWrong)

/-- 'breviarylaw18.LinesFresh': WHATEVER THE INPUT: true; the input reads as it did. -/
def linesFreshSpec : ChangeSpec := { name := "linesFresh", fn := fun _ => fun
  | [d1, d2] => { results := [.lit (.bool true)], args := [d1, d2] }
  | _ => none }
def linesFreshRow : OpenClaim := { program := "ytigbglagfbbmjaa", sum := "5bd8591cf505722fca7a622a0b6e7c16732f13f57ff89c8c6b31cddb1e7f9958", func := "breviary/breviarylaw18.LinesFresh", spec := "linesFresh", unfollowed := true, recurses := true, apart := false }
def LinesFreshSaid : Prop := linesFreshRow.holds Try.pinned (OpenSpec.ofChange linesFreshSpec)

/-- ITS FALSE NEIGHBOUR: 'it returns false'. Refute it at one input. -/
def linesFreshWrong : ChangeSpec := { name := "linesFresh", fn := fun _ => fun
  | [d1, d2] => { results := [.lit (.bool false)], args := [d1, d2] }
  | _ => none }
def LinesFreshWrongFalsely : Prop := linesFreshRow.holds Try.pinned (OpenSpec.ofChange linesFreshWrong)

/- THE SECOND FORM. 'bulk': how many values and letters a reading holds, each counted each time it is reached (what is shared counts as often as it is met; a slice's spare places count too). A statement '..UptoSaid' is the law's where the arguments, and the package variables that the reading takes, are together of bulk at most 1048576: NARROWER than '..Said'. Prove '..Said' where nothing that the law and all that it calls make is longer than what came in: it says more and counts as full. Else prove '..UptoSaid'. A law counts once. -/
mutual
def uptoBulk {H : Type} : DataW H → Nat
  | .lit (.string bytes) => bytes.length + 1
  | .lit _ => 1
  | .nil => 1
  | .ptr d => uptoBulk d + 1
  | .slice elems spare => uptoBulkAll elems + uptoBulkAll spare + 1
  | .agg parts => uptoBulkAll parts + 1
  | .iface _ d => uptoBulk d + 1
  | .map entries => uptoBulkEntries entries + 1
  | .held _ => 1
def uptoBulkAll {H : Type} : List (DataW H) → Nat
  | [] => 0
  | d :: r => uptoBulk d + uptoBulkAll r
def uptoBulkEntries {H : Type} : List (Lit × DataW H) → Nat
  | [] => 0
  | x :: r => uptoBulkEntry x + uptoBulkEntries r
def uptoBulkEntry {H : Type} : Lit × DataW H → Nat
  | (.string bytes, d) => bytes.length + uptoBulk d + 1
  | (_, d) => uptoBulk d + 1
 end
def uptoSmall : (H : Type) → List (DataW H) → Bool := fun _ ds => decide (uptoBulkAll ds ≤ 1048576)
def OpenSpec.upto (s : _root_.Go.ChangeSpec) : _root_.Go.OpenSpec := { _root_.Go.OpenSpec.ofChange s with cond := some uptoSmall }

/-- 'breviarylaw20.ReachTells', WHERE WHAT IT READS IS OF BULK AT MOST 1048576: true; the input reads as it did. -/
def reachTellsUptoRow : OpenClaim := { program := "ytigbglagfbbmjaa", sum := "5bd8591cf505722fca7a622a0b6e7c16732f13f57ff89c8c6b31cddb1e7f9958", func := "breviary/breviarylaw20.ReachTells", spec := "reachTells", unfollowed := true, recurses := true, apart := false, narrowed := true }
def ReachTellsUptoSaid : Prop := reachTellsUptoRow.holds Try.pinned (OpenSpec.upto reachTellsSpec)

/-- 'breviarylaw20.ReachParts', WHERE WHAT IT READS IS OF BULK AT MOST 1048576: true; the input reads as it did. -/
def reachPartsUptoRow : OpenClaim := { program := "ytigbglagfbbmjaa", sum := "5bd8591cf505722fca7a622a0b6e7c16732f13f57ff89c8c6b31cddb1e7f9958", func := "breviary/breviarylaw20.ReachParts", spec := "reachParts", unfollowed := true, recurses := true, apart := false, narrowed := true }
def ReachPartsUptoSaid : Prop := reachPartsUptoRow.holds Try.pinned (OpenSpec.upto reachPartsSpec)

/-- 'breviarylaw20.ReachEnds', WHERE WHAT IT READS IS OF BULK AT MOST 1048576: true; the input reads as it did. -/
def reachEndsUptoRow : OpenClaim := { program := "ytigbglagfbbmjaa", sum := "5bd8591cf505722fca7a622a0b6e7c16732f13f57ff89c8c6b31cddb1e7f9958", func := "breviary/breviarylaw20.ReachEnds", spec := "reachEnds", unfollowed := true, recurses := true, apart := false, narrowed := true }
def ReachEndsUptoSaid : Prop := reachEndsUptoRow.holds Try.pinned (OpenSpec.upto reachEndsSpec)

/-- 'breviarylaw21.ChainRises', WHERE WHAT IT READS IS OF BULK AT MOST 1048576: true; the input reads as it did. -/
def chainRisesUptoRow : OpenClaim := { program := "ytigbglagfbbmjaa", sum := "5bd8591cf505722fca7a622a0b6e7c16732f13f57ff89c8c6b31cddb1e7f9958", func := "breviary/breviarylaw21.ChainRises", spec := "chainRises", unfollowed := true, recurses := true, apart := false, narrowed := true }
def ChainRisesUptoSaid : Prop := chainRisesUptoRow.holds Try.pinned (OpenSpec.upto chainRisesSpec)

/-- 'breviarylaw05.FlowParts', WHERE WHAT IT READS IS OF BULK AT MOST 1048576: true; the input reads as it did. -/
def flowPartsUptoRow : OpenClaim := { program := "ytigbglagfbbmjaa", sum := "5bd8591cf505722fca7a622a0b6e7c16732f13f57ff89c8c6b31cddb1e7f9958", func := "breviary/breviarylaw05.FlowParts", spec := "flowParts", unfollowed := true, recurses := true, apart := false, narrowed := true }
def FlowPartsUptoSaid : Prop := flowPartsUptoRow.holds Try.pinned (OpenSpec.upto flowPartsSpec)

/-- 'breviarylaw05.FlowEnds', WHERE WHAT IT READS IS OF BULK AT MOST 1048576: true; the input reads as it did. -/
def flowEndsUptoRow : OpenClaim := { program := "ytigbglagfbbmjaa", sum := "5bd8591cf505722fca7a622a0b6e7c16732f13f57ff89c8c6b31cddb1e7f9958", func := "breviary/breviarylaw05.FlowEnds", spec := "flowEnds", unfollowed := true, recurses := true, apart := false, narrowed := true }
def FlowEndsUptoSaid : Prop := flowEndsUptoRow.holds Try.pinned (OpenSpec.upto flowEndsSpec)

/-- 'breviarylaw12.MarksTell', WHERE WHAT IT READS IS OF BULK AT MOST 1048576: true; the input reads as it did. -/
def marksTellUptoRow : OpenClaim := { program := "ytigbglagfbbmjaa", sum := "5bd8591cf505722fca7a622a0b6e7c16732f13f57ff89c8c6b31cddb1e7f9958", func := "breviary/breviarylaw12.MarksTell", spec := "marksTell", unfollowed := true, recurses := true, apart := false, narrowed := true }
def MarksTellUptoSaid : Prop := marksTellUptoRow.holds Try.pinned (OpenSpec.upto marksTellSpec)

/-- 'breviarylaw12.MarksPlay', WHERE WHAT IT READS IS OF BULK AT MOST 1048576: true; the input reads as it did. -/
def marksPlayUptoRow : OpenClaim := { program := "ytigbglagfbbmjaa", sum := "5bd8591cf505722fca7a622a0b6e7c16732f13f57ff89c8c6b31cddb1e7f9958", func := "breviary/breviarylaw12.MarksPlay", spec := "marksPlay", unfollowed := true, recurses := true, apart := false, narrowed := true }
def MarksPlayUptoSaid : Prop := marksPlayUptoRow.holds Try.pinned (OpenSpec.upto marksPlaySpec)

/-- 'breviarylaw05.FlowMakes', WHERE WHAT IT READS IS OF BULK AT MOST 1048576: true; the input reads as it did. -/
def flowMakesUptoRow : OpenClaim := { program := "ytigbglagfbbmjaa", sum := "5bd8591cf505722fca7a622a0b6e7c16732f13f57ff89c8c6b31cddb1e7f9958", func := "breviary/breviarylaw05.FlowMakes", spec := "flowMakes", unfollowed := true, recurses := true, apart := false, narrowed := true }
def FlowMakesUptoSaid : Prop := flowMakesUptoRow.holds Try.pinned (OpenSpec.upto flowMakesSpec)

/-- 'breviarylaw18.LinesTell', WHERE WHAT IT READS IS OF BULK AT MOST 1048576: true; the input reads as it did. -/
def linesTellUptoRow : OpenClaim := { program := "ytigbglagfbbmjaa", sum := "5bd8591cf505722fca7a622a0b6e7c16732f13f57ff89c8c6b31cddb1e7f9958", func := "breviary/breviarylaw18.LinesTell", spec := "linesTell", unfollowed := true, recurses := true, apart := false, narrowed := true }
def LinesTellUptoSaid : Prop := linesTellUptoRow.holds Try.pinned (OpenSpec.upto linesTellSpec)

/-- 'breviarylaw18.LinesJoin', WHERE WHAT IT READS IS OF BULK AT MOST 1048576: true; the input reads as it did. -/
def linesJoinUptoRow : OpenClaim := { program := "ytigbglagfbbmjaa", sum := "5bd8591cf505722fca7a622a0b6e7c16732f13f57ff89c8c6b31cddb1e7f9958", func := "breviary/breviarylaw18.LinesJoin", spec := "linesJoin", unfollowed := true, recurses := true, apart := false, narrowed := true }
def LinesJoinUptoSaid : Prop := linesJoinUptoRow.holds Try.pinned (OpenSpec.upto linesJoinSpec)

/-- 'breviarylaw18.LinesFresh', WHERE WHAT IT READS IS OF BULK AT MOST 1048576: true; the input reads as it did. -/
def linesFreshUptoRow : OpenClaim := { program := "ytigbglagfbbmjaa", sum := "5bd8591cf505722fca7a622a0b6e7c16732f13f57ff89c8c6b31cddb1e7f9958", func := "breviary/breviarylaw18.LinesFresh", spec := "linesFresh", unfollowed := true, recurses := true, apart := false, narrowed := true }
def LinesFreshUptoSaid : Prop := linesFreshUptoRow.holds Try.pinned (OpenSpec.upto linesFreshSpec)

end Rows
end Go.Proofs.Ytigbglagfbbmjaa
