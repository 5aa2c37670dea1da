/- A law of this claim's own, over any program: append of one cell, with a word on the block it lies in. No condition. -/
import Derived.Test.YtinofjenoapeaaaQ6
import Derived.Maps.OwnIn
namespace Go.Proofs.Ytinofjenoapeaaa
open Go.RowKit Go.Shelf
set_option linter.unusedSimpArgs false
set_option linter.unusedVariables false
theorem wpListIn_append_oneA {F : Fence} {n : Nat} {P : Program} (w : World) {ops : Array Oper} {rest : List Oper} {o : Oper} {a : Act} {Q : Exit → Act → World → Prop}
    (hg : o.guard = none) (s x : Operand) (t : TypeId) (hop : o.op = Op.call { callee := Callee.builtin Builtin.append, args := #[s, x], argTypes := #[t, t] })
    (base : Nat) (e : TypeId) (i : TypeInfo) (z : Value) (bytes : Nat) (h1 : P.underlying t = some (.slice e)) (h2 : P.info? e = some i) (h3 : i.zero = some z) (h4 : i.size = 1) (h5 : i.bytes = bytes) (h6 : z.cells.size = 1)
    (v : Value) (k : Nat) (xs : List Value) (hs : a.eval s = v) (hown : w.ownsRow base e 1 v k xs) (ad : Addr) (u : Value) (hx : a.eval x = .slice (some ad) 1 1) (hc : w.cell? ad = some u) (hu : u.oneCell' = true)
    (b1 : k + 1 ≤ maxLen) (b2 : (k + 1) * bytes ≤ 140737488355328) (b3 : base ≤ w.heap.size)
    (hK : ∀ g cap w', Hid (w'.ownsRow base e 1 (.slice (some ⟨g, 0, none⟩) (k + 1) cap) (k + 1) (xs ++ [u])) → Hid (w.grownBy w' v.ownBlock) → Hid (some g = v.ownBlock ∨ g = w.heap.size) → wpListIn F n P ops Q rest (a.put o.dst (.slice (some ⟨g, 0, none⟩) (k + 1) cap)) w') :
    wpListIn F n P ops Q (o :: rest) a w := by
  refine wpListIn_append_own_at w hg s x t hop base e i z 1 bytes h1 h2 h3 h4 h5 h6 (by decide) v k xs hs hown ad 1 1 [u] hx rfl (fun j u' hj => ?_) (fun u' hu' => by simp at hu'; subst hu'; exact hu) b1 b2 b3 (fun v' w' ho hg' hn hat => ?_)
  · match j, hj with
    | 0, hj => simp at hj; subst hj; simpa [Addr.add] using hc
  · rcases ho.2 with ⟨rfl, h0⟩ | ⟨g, cap, cur, rfl, _⟩
    · simp at h0
    · refine hK g cap w' ho hg' ?_
      rcases hat with h | h
      · exact .inl h
      · exact .inr (by simpa [Value.ownBlock] using h)
end Go.Proofs.Ytinofjenoapeaaa
