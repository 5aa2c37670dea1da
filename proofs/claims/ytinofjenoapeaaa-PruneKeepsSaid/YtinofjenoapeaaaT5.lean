/- A function's code from a statement on, so that a long walk is told in several theorems. No condition. -/
import Derived.Test.YtinofjenoapeaaaT2
namespace Go.Proofs.Ytinofjenoapeaaa
open Go.RowKit Go.Shelf
/-- What follows the first n statements. -/
def restOf : Nat → Code → Code
  | 0, c => c
  | n + 1, .seq _ b => restOf n b
  | _ + 1, c => c
def bodyOf (f : Func) : Code := match f.body with
  | some c => c
  | none => .skip
end Go.Proofs.Ytinofjenoapeaaa
