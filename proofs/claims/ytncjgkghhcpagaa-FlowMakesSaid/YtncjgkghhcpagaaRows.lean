/-
  No cell of these rows narrows 'for every input' (looked for: loops, veiled, ifaces, maps, wideKeys, modest, calm, conditions, laid).
  DERIVED. THE GIVEN ROWS OF THIS SEAT. 3 by the template 'for every input the law returns true; each argument reads behind the call as it read before'; 0 by the template 'total and deterministic' (their statements: YtncjgkghhcpagaaTotals.lean).
  GIVEN WITH THE SEED: the statements are not yours to turn. If you find one false, say at which input.
  Laid BY PROGRAM, IN A SANDBOX (cutbox-rows.mjs): the forced cells as the released guide's own fill.sh prints them over the translation 46dc5f43146dfc14… (all of the seat's roots in one cut). By AI agents, Wed Nov 11 2026. No macro, syntax, notation, axiom, sorry.
-/
import Derived.Test.YtncjgkghhcpagaaChecked
import GoSem.Claim
import GoSem.ClaimJoined
import GoSem.ClaimMapViews
import Derived.JoinedTies
import Derived.KernelRfl
namespace Go.Proofs.Ytncjgkghhcpagaa
/- THE CELL 'sum', in the pinned program and in every row, IS THE sha256 OF THE DUMP (.gsa) THAT YtncjgkghhcpagaaProg.lean LOADS. Nothing in Lean hashes anything: it is a label: what it is worth is what the hold of that sum in a sandbox is worth. -/
noncomputable def Try.pinned : Pinned := { name := "ytncjgkghhcpagaa", sum := "46dc5f43146dfc1486acc58fdb772d1be3b71841111f06ee77db03ddac6d6664", checked := Try.checked }
namespace Rows
def none {H : Type} : Left H := { results := [], args := [] }

/-- 'breviarylaw05.FlowParts': WHATEVER THE INPUT: true; the input reads as it did. -/
def flowPartsSpec : ChangeSpec := { name := "flowParts", fn := fun _ => fun
  | [d1, d2] => { results := [.lit (.bool true)], args := [d1, d2] }
  | _ => none }
def flowPartsRow : OpenClaim := { program := "ytncjgkghhcpagaa", sum := "46dc5f43146dfc1486acc58fdb772d1be3b71841111f06ee77db03ddac6d6664", func := "breviary/breviarylaw05.FlowParts", spec := "flowParts", unfollowed := true, recurses := true, apart := false }
def FlowPartsSaid : Prop := flowPartsRow.holds Try.pinned (OpenSpec.ofChange flowPartsSpec)

/-- ITS FALSE NEIGHBOUR: 'it returns false'. Refute it at one input. -/
def flowPartsWrong : ChangeSpec := { name := "flowParts", fn := fun _ => fun
  | [d1, d2] => { results := [.lit (.bool false)], args := [d1, d2] }
  | _ => none }
def FlowPartsWrongFalsely : Prop := flowPartsRow.holds Try.pinned (OpenSpec.ofChange flowPartsWrong)

/-- 'breviarylaw05.FlowEnds': WHATEVER THE INPUT: true; the input reads as it did. -/
def flowEndsSpec : ChangeSpec := { name := "flowEnds", fn := fun _ => fun
  | [d1, d2] => { results := [.lit (.bool true)], args := [d1, d2] }
  | _ => none }
def flowEndsRow : OpenClaim := { program := "ytncjgkghhcpagaa", sum := "46dc5f43146dfc1486acc58fdb772d1be3b71841111f06ee77db03ddac6d6664", func := "breviary/breviarylaw05.FlowEnds", spec := "flowEnds", unfollowed := true, recurses := true, apart := false }
def FlowEndsSaid : Prop := flowEndsRow.holds Try.pinned (OpenSpec.ofChange flowEndsSpec)

/-- ITS FALSE NEIGHBOUR: 'it returns false'. Refute it at one input. -/
def flowEndsWrong : ChangeSpec := { name := "flowEnds", fn := fun _ => fun
  | [d1, d2] => { results := [.lit (.bool false)], args := [d1, d2] }
  | _ => none }
def FlowEndsWrongFalsely : Prop := flowEndsRow.holds Try.pinned (OpenSpec.ofChange flowEndsWrong)

/-- 'breviarylaw05.FlowMakes': WHATEVER THE INPUT: true; the input reads as it did. -/
def flowMakesSpec : ChangeSpec := { name := "flowMakes", fn := fun _ => fun
  | [d1, d2, d3] => { results := [.lit (.bool true)], args := [d1, d2, d3] }
  | _ => none }
def flowMakesRow : OpenClaim := { program := "ytncjgkghhcpagaa", sum := "46dc5f43146dfc1486acc58fdb772d1be3b71841111f06ee77db03ddac6d6664", func := "breviary/breviarylaw05.FlowMakes", spec := "flowMakes", unfollowed := true, recurses := true, apart := false }
def FlowMakesSaid : Prop := flowMakesRow.holds Try.pinned (OpenSpec.ofChange flowMakesSpec)

/-- ITS FALSE NEIGHBOUR: 'it returns false'. Refute it at one input. -/
def flowMakesWrong : ChangeSpec := { name := "flowMakes", fn := fun _ => fun
  | [d1, d2, d3] => { results := [.lit (.bool false)], args := [d1, d2, d3] }
  | _ => none }
def FlowMakesWrongFalsely : Prop := flowMakesRow.holds Try.pinned (OpenSpec.ofChange flowMakesWrong)

/- THE SECOND FORM. 'bulk': how many values and letters a reading holds, each counted each time it is reached (what is shared counts as often as it is met; a slice's spare places count too). A statement '..UptoSaid' is the law's where the arguments, and the package variables that the reading takes, are together of bulk at most 1048576: NARROWER than '..Said'. Prove '..Said' where nothing that the law and all that it calls make is longer than what came in: it says more and counts as full. Else prove '..UptoSaid'. A law counts once. -/
mutual
def uptoBulk {H : Type} : DataW H → Nat
  | .lit (.string bytes) => bytes.length + 1
  | .lit _ => 1
  | .nil => 1
  | .ptr d => uptoBulk d + 1
  | .slice elems spare => uptoBulkAll elems + uptoBulkAll spare + 1
  | .agg parts => uptoBulkAll parts + 1
  | .iface _ d => uptoBulk d + 1
  | .map entries => uptoBulkEntries entries + 1
  | .held _ => 1
def uptoBulkAll {H : Type} : List (DataW H) → Nat
  | [] => 0
  | d :: r => uptoBulk d + uptoBulkAll r
def uptoBulkEntries {H : Type} : List (Lit × DataW H) → Nat
  | [] => 0
  | x :: r => uptoBulkEntry x + uptoBulkEntries r
def uptoBulkEntry {H : Type} : Lit × DataW H → Nat
  | (.string bytes, d) => bytes.length + uptoBulk d + 1
  | (_, d) => uptoBulk d + 1
 end
def uptoSmall : (H : Type) → List (DataW H) → Bool := fun _ ds => decide (uptoBulkAll ds ≤ 1048576)
def OpenSpec.upto (s : _root_.Go.ChangeSpec) : _root_.Go.OpenSpec := { _root_.Go.OpenSpec.ofChange s with cond := some uptoSmall }

/-- 'breviarylaw05.FlowParts', WHERE WHAT IT READS IS OF BULK AT MOST 1048576: true; the input reads as it did. -/
def flowPartsUptoRow : OpenClaim := { program := "ytncjgkghhcpagaa", sum := "46dc5f43146dfc1486acc58fdb772d1be3b71841111f06ee77db03ddac6d6664", func := "breviary/breviarylaw05.FlowParts", spec := "flowParts", unfollowed := true, recurses := true, apart := false, narrowed := true }
def FlowPartsUptoSaid : Prop := flowPartsUptoRow.holds Try.pinned (OpenSpec.upto flowPartsSpec)

/-- 'breviarylaw05.FlowEnds', WHERE WHAT IT READS IS OF BULK AT MOST 1048576: true; the input reads as it did. -/
def flowEndsUptoRow : OpenClaim := { program := "ytncjgkghhcpagaa", sum := "46dc5f43146dfc1486acc58fdb772d1be3b71841111f06ee77db03ddac6d6664", func := "breviary/breviarylaw05.FlowEnds", spec := "flowEnds", unfollowed := true, recurses := true, apart := false, narrowed := true }
def FlowEndsUptoSaid : Prop := flowEndsUptoRow.holds Try.pinned (OpenSpec.upto flowEndsSpec)

/-- 'breviarylaw05.FlowMakes', WHERE WHAT IT READS IS OF BULK AT MOST 1048576: true; the input reads as it did. -/
def flowMakesUptoRow : OpenClaim := { program := "ytncjgkghhcpagaa", sum := "46dc5f43146dfc1486acc58fdb772d1be3b71841111f06ee77db03ddac6d6664", func := "breviary/breviarylaw05.FlowMakes", spec := "flowMakes", unfollowed := true, recurses := true, apart := false, narrowed := true }
def FlowMakesUptoSaid : Prop := flowMakesUptoRow.holds Try.pinned (OpenSpec.upto flowMakesSpec)

end Rows
end Go.Proofs.Ytncjgkghhcpagaa
