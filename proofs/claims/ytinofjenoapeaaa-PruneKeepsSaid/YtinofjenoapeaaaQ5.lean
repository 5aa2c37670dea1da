/- Laws of this claim's own, over any program: append of a slice that is read as a list, whatever its address. No condition. -/
import Derived.Test.YtinofjenoapeaaaQ4
namespace Go.Proofs.Ytinofjenoapeaaa
open Go.RowKit Go.Shelf
set_option linter.unusedSimpArgs false
set_option linter.unusedVariables false

/-- It returned v, and left alone what was there. -/
def RetB (w : World) (v : Value) (e : Ending) (w' : World) : Prop := e = .returned v ∧ Below w.heap.size w w'
theorem SliceAt.later {w w' : World} {k : Nat} {v : Value} {xs : List Value} (h : SliceAt w k v xs) (hb : Below w.heap.size w w') : SliceAt w' k v xs := by
  obtain ⟨A, c, rfl, hc, hA, hx⟩ := h
  refine ⟨A, c, rfl, hc, hA, fun i x hi => ?_⟩
  obtain ⟨b, o, rfl, hr⟩ := hx i x hi
  exact ⟨b, o, rfl, fun j u hu => (hb.cell (World.block_lt_of_cell? w _ (hr j u hu))).trans (hr j u hu)⟩
theorem grownBy_refl (w : World) (row : Option Nat) : w.grownBy w row := ⟨rfl, rfl, rfl, Nat.le_refl _, fun _ _ _ => rfl⟩
theorem run_append_src_nil {P : Program} (t ty e : TypeId) (i : TypeInfo) (z : Value) (ht : P.underlying t = some (.slice e)) (hi : P.info? e = some i) (hz : i.zero = some z) (a : Option Addr) (n c : Nat) (hn : n ≤ c) (w : World) :
    (Builtin.append_ #[t, t] ty #[.slice a n c, .slice none 0 0]).run P w = .ok (.slice a n c) w := by
  cases a <;> simp [Builtin.append_, run_underlying ht, sizeOf, typeInfo, zeroValue, hi, hz, Builtin.lenOf, hn, run_firstCells_none, storeCells]

/-- append(s, x...): s owned, x read as ys. -/
theorem wpListIn_append_list {F : Fence} {n : Nat} {P : Program} (w : World) {ops : Array Oper} {rest : List Oper} {o : Oper} {a : Act} {Q : Exit → Act → World → Prop}
    (hg : o.guard = none) (s x : Operand) (t : TypeId) (hop : o.op = Op.call { callee := Callee.builtin Builtin.append, args := #[s, x], argTypes := #[t, t] })
    (base : Nat) (e : TypeId) (i : TypeInfo) (z : Value) (size bytes : Nat) (h1 : P.underlying t = some (.slice e)) (h2 : P.info? e = some i) (h3 : i.zero = some z) (h4 : i.size = size) (h5 : i.bytes = bytes) (h6 : z.cells.size = size) (h7 : 0 < size)
    (v : Value) (k : Nat) (xs : List Value) (hs : a.eval s = v) (hown : w.ownsRow base e size v k xs) (ys : List Value) {sv : Value} (hx : a.eval x = sv) (hsl : SliceAt w size sv ys) (hk : ∀ y ∈ ys, (cv y).size = size)
    (h1c : ∀ u ∈ cellsOf ys, u.oneCell' = true) (b1 : k + ys.length ≤ maxLen) (b2 : (k + ys.length) * bytes ≤ 140737488355328) (b3 : base ≤ w.heap.size)
    (hK : ∀ v' w', w'.ownsRow base e size v' (k + ys.length) (xs ++ cellsOf ys) → w.grownBy w' v.ownBlock → (v' = .slice none 0 0 ↔ v = .slice none 0 0 ∧ ys.length = 0) → wpListIn F n P ops Q rest (a.put o.dst v') w') :
    wpListIn F n P ops Q (o :: rest) a w := by
  have hsl' := hsl
  obtain ⟨A, c, rfl, hc, hA, hel⟩ := hsl
  cases A with
  | some ad =>
    exact wpListIn_append_own w hg s x t hop base e i z size bytes h1 h2 h3 h4 h5 h6 h7 v k xs hs hown ad ys.length c (cellsOf ys) hx (cellsOf_len hk) (hsl'.cells hk) h1c b1 b2 b3 hK
  | none =>
    obtain ⟨rfl, _, rfl⟩ := hsl'.nil
    have hv : ∃ av nv cvv, v = .slice av nv cvv ∧ nv ≤ cvv := by
      rcases hown.2 with ⟨rfl, _⟩ | ⟨g, cap, cur, rfl, _, _, hle, _⟩
      · exact ⟨none, 0, 0, rfl, Nat.le_refl _⟩
      · exact ⟨_, _, _, rfl, hle⟩
    obtain ⟨av, nv, cvv, rfl, hle⟩ := hv
    have hrun := run_append_src_nil (P := P) t o.type e i z h1 h2 h3 av nv cvv hle w
    refine wpListIn_plain hg fun K hK' => ?_
    unfold Oper.wpIn
    refine ⟨?_, ?_⟩
    · simp [Oper.about, hop, resolve, Target.leads, Sem.run_pure]
    · rw [Oper.semAt_plain F _ _ (by rw [hop]; intro c hc'; cases hc')]
      simp only [List.length_nil] at hx
      simp [execOp, hop, resolve, invoke, builtin, hs, hx, hrun, Result.andThen]
      exact hK' _ _ (hK _ w (by simpa [cellsOf] using hown) (grownBy_refl _ _) (by simp))

/-- append(s, u), u of one cell. -/
theorem wpListIn_append_one {F : Fence} {n : Nat} {P : Program} (w : World) {ops : Array Oper} {rest : List Oper} {o : Oper} {a : Act} {Q : Exit → Act → World → Prop}
    (hg : o.guard = none) (s x : Operand) (t : TypeId) (hop : o.op = Op.call { callee := Callee.builtin Builtin.append, args := #[s, x], argTypes := #[t, t] })
    (base : Nat) (e : TypeId) (i : TypeInfo) (z : Value) (bytes : Nat) (h1 : P.underlying t = some (.slice e)) (h2 : P.info? e = some i) (h3 : i.zero = some z) (h4 : i.size = 1) (h5 : i.bytes = bytes) (h6 : z.cells.size = 1)
    (v : Value) (k : Nat) (xs : List Value) (hs : a.eval s = v) (hown : w.ownsRow base e 1 v k xs) (ad : Addr) (u : Value) (hx : a.eval x = .slice (some ad) 1 1) (hc : w.cell? ad = some u) (hu : u.oneCell' = true)
    (b1 : k + 1 ≤ maxLen) (b2 : (k + 1) * bytes ≤ 140737488355328) (b3 : base ≤ w.heap.size)
    (hK : ∀ g cap w', Hid (w'.ownsRow base e 1 (.slice (some ⟨g, 0, none⟩) (k + 1) cap) (k + 1) (xs ++ [u])) → Hid (w.grownBy w' v.ownBlock) → wpListIn F n P ops Q rest (a.put o.dst (.slice (some ⟨g, 0, none⟩) (k + 1) cap)) w') :
    wpListIn F n P ops Q (o :: rest) a w := by
  refine wpListIn_append_own w hg s x t hop base e i z 1 bytes h1 h2 h3 h4 h5 h6 (by decide) v k xs hs hown ad 1 1 [u] hx rfl (fun j u' hj => ?_) (fun u' hu' => by simp at hu'; subst hu'; exact hu) b1 b2 b3 (fun v' w' ho hg' hn => ?_)
  · match j, hj with
    | 0, hj => simp at hj; subst hj; simpa [Addr.add] using hc
  · rcases ho.2 with ⟨rfl, h0⟩ | ⟨g, cap, cur, rfl, _⟩
    · simp at h0
    · exact hK g cap w' ho hg'

/-- A block of a list's cells, owned. -/
theorem owns_new {w : World} {base : Nat} {e : TypeId} {k n : Nat} {xs : List Value} (hb : base ≤ w.heap.size) (hl : xs.length = n * k) (hn : n ≤ maxLen) :
    (w.alloc (.cells xs.toArray e)).ownsRow base e k (.slice (some ⟨w.heap.size, 0, none⟩) n n) n xs :=
  ⟨hl, .inr ⟨w.heap.size, n, xs.toArray, rfl, hb, World.alloc_heap_new w _, Nat.le_refl _, hn, by simpa using hl, by simp [← hl]⟩⟩
end Go.Proofs.Ytinofjenoapeaaa
