/- Laws of this claim's own, over any program: steps of a drawn region that load one cell. No condition. -/
import Derived.Test.YtinofjenoapeaaaQ5
import Derived.Test.YtinofjenoapeaaaQ3
namespace Go.Proofs.Ytinofjenoapeaaa
open Go.RowKit Go.Shelf
set_option linter.unusedSimpArgs false
set_option linter.unusedVariables false
section
variable {P : Program} {ops : Array Oper} {C : World → Prop} {Q : Act → Prop} {o : Oper} {rest : List Oper} {a : Act}
theorem rangeAt_one {w : World} {b off : Nat} {v : Value} (h1 : cv v = #[v]) (h : w.cell? ⟨b, off, none⟩ = some v) : w.rangeAt b off (cv v).toList := by
  intro j u hu
  rw [h1] at hu
  match j, hu with
  | 0, hu => simp at hu; subst hu; simpa using h
theorem hList_cell {T : TypeId} {x : Operand} {v : Value} {b off : Nat} (hw : Region.wanted o (yielded ops a.tmps) = true) (ho : o.op = .load T x) (hx : a.eval x = .pointer (some ⟨b, off, none⟩)) (hv : VOf P T v) (h1 : cv v = #[v]) (hr : ∀ w, C w → w.cell? ⟨b, off, none⟩ = some v)
    (h : hList P ops C Q rest (a.put o.dst v)) : hList P ops C Q (o :: rest) a :=
  hList_load hw ho hx hv (fun w hc => rangeAt_one h1 (hr w hc)) h
end
end Go.Proofs.Ytinofjenoapeaaa
