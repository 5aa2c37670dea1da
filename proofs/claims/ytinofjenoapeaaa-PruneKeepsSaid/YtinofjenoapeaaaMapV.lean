/- Maps with whole numbers for keys, read as functions. No condition. -/
import Derived.Test.YtinofjenoapeaaaQ6
import Derived.Maps.OwnIn
import Derived.Maps.Views
import Derived.Maps.Keyed
import Derived.Carry
namespace Go.Proofs.Ytinofjenoapeaaa
open Go.RowKit Go.Shelf
set_option linter.unusedSimpArgs false
set_option linter.unusedVariables false

/-- An element as it is. -/
def heldR (v : Value) : Option (DataW Value × List MemPlace) := some (.held v, [])
/-- Block b is a map of at most n entries that reads as f. -/
def MapV (P : Program) (k : TypeId) (w : World) (b n : Nat) (f : Int → Option Value) : Prop :=
  ∃ D, w.ownsMap P k heldR b n D ∧ Maps.IsMap D ∧ ∀ z : Int, Maps.has D (.int .i64 z) = (f z).isSome ∧ ∀ u, D.atKey (.int .i64 z) (.held u) = .held ((f z).getD u)

theorem MapV.made (w : World) (P : Program) (k : TypeId) : MapV P k (w.alloc (.map #[] 0)) w.heap.size 0 (fun _ => none) :=
  ⟨.map [], World.ownsMap_made w P k heldR, Maps.isMap_empty, fun z => ⟨rfl, fun u => rfl⟩⟩
theorem MapV.lt {P : Program} {k : TypeId} {w : World} {b n : Nat} {f : Int → Option Value} (h : MapV P k w b n f) : b < w.heap.size := let ⟨_, h, _⟩ := h; h.lt
theorem MapV.mono {P : Program} {k : TypeId} {w : World} {b n m : Nat} {f : Int → Option Value} (h : MapV P k w b n f) (hn : n ≤ m) : MapV P k w b m f := let ⟨D, h1, h2⟩ := h; ⟨D, h1.mono hn, h2⟩
theorem MapV.touch {P : Program} {k : TypeId} {w w' : World} {b n : Nat} {f : Int → Option Value} {S : Nat → Prop} (h : MapV P k w b n f) (ht : Touch S w w') (hn : ¬ S b) : MapV P k w' b n f := by
  obtain ⟨D, ho, hD, hf⟩ := h
  obtain ⟨es, clock, hb, F, hs, e⟩ := ho
  exact ⟨D, ⟨es, clock, ht.heap hb hn, F, hs, e⟩, hD, hf⟩
theorem MapV.later {P : Program} {k : TypeId} {w w' : World} {b n : Nat} {f : Int → Option Value} (h : MapV P k w b n f) (hb : Below w.heap.size w w') : MapV P k w' b n f := h.touch (Touch.of_below hb) (by have := h.lt; omega)

section
variable {F : Fence} {nF : Nat} {P : Program} {ops : Array Oper} {rest : List Oper} {o : Oper} {a : Act} {w : World} {Q : Exit → Act → World → Prop}
theorem wpListIn_lookupv_ok (hg : o.guard = none) (m x : Operand) (t : TypeId) (hop : o.op = Op.lookup t m x true) (k e : TypeId) (hk : P.underlying k = some (.int .i64)) (ht : P.underlying t = some (.map k e)) {zv : Value} (hz : ∀ w, (zeroValue e).run P w = .ok zv w)
    {b n : Nat} {f : Int → Option Value} (hm : a.eval m = .map (some b)) (h : MapV P k w b n f) {z : Int} (hx : a.eval x = .int .i64 z) (hw : (Lit.int .i64 z).wf = true) {r : Option Value} (hr : f z = r)
    (hK : wpListIn F nF P ops Q rest (a.put o.dst (.tuple #[r.getD zv, .bool r.isSome])) w) : wpListIn F nF P ops Q (o :: rest) a w := by
  subst hr
  obtain ⟨D, ho, hD, hf⟩ := h
  refine wpListIn_lookup_own_ok w hg m x t hop k e (Maps.int_keyed hk) ht heldR (hz w) (.held zv) [] rfl b n D hm ho _ _ hx (Maps.keyOf_int_mk hk hw) (fun v ps hv => ?_)
  have h1 := (hf z).2 zv
  rw [h1] at hv
  have e1 : v = (f z).getD zv := by
    simp only [heldR, Option.some.injEq, Prod.mk.injEq, DataW.held.injEq] at hv
    exact hv.1
  rw [e1, (hf z).1]
  exact hK
theorem wpListIn_lookupv (hF : IsWide F) (hg : Region.wanted o (yielded ops a.tmps) = true) (m x : Operand) (t : TypeId) (hop : o.op = Op.lookup t m x false) (k e : TypeId) (hk : P.underlying k = some (.int .i64)) (ht : P.underlying t = some (.map k e)) {zv : Value} (hz : ∀ w, (zeroValue e).run P w = .ok zv w)
    {b n : Nat} {f : Int → Option Value} (hm : a.eval m = .map (some b)) (h : MapV P k w b n f) {z : Int} (hx : a.eval x = .int .i64 z) (hw : (Lit.int .i64 z).wf = true) {r : Option Value} (hr : f z = r)
    (hK : wpListIn F nF P ops Q rest (a.put o.dst (r.getD zv)) w) : wpListIn F nF P ops Q (o :: rest) a w := by
  subst hr
  obtain ⟨D, ho, hD, hf⟩ := h
  obtain ⟨v, ps, hrun, hv⟩ := ho.lookup (Maps.int_keyed hk) ht (hz w) (zd := .held zv) (zp := []) rfl (Maps.keyOf_int_mk hk hw)
  have h1 := (hf z).2 zv
  rw [h1] at hv
  have e1 : v = (f z).getD zv := by
    simp only [heldR, Option.some.injEq, Prod.mk.injEq, DataW.held.injEq] at hv
    exact hv.1
  subst e1
  refine wpListIn_val hF hg (fun c => by rw [hop]; exact fun h => by cases h) ?_ hK
  simp [execOp, hop, hm, hx, hrun, Result.andThen]
/-- The function with one more value. -/
def updF (f : Int → Option Value) (z : Int) (v : Value) : Int → Option Value := fun y => if y = z then some v else f y
theorem wpListIn_mapUpdatev (hg : o.guard = none) (m x y : Operand) (t : TypeId) (hop : o.op = Op.mapUpdate t m x y) (k e : TypeId) (hk : P.underlying k = some (.int .i64)) (ht : P.underlying t = some (.map k e))
    {b n : Nat} {f : Int → Option Value} (hm : a.eval m = .map (some b)) (h : MapV P k w b n f) (hn : n < maxLen) {z : Int} {v : Value} (hx : a.eval x = .int .i64 z) (hy : a.eval y = v) (hw : (Lit.int .i64 z).wf = true)
    (hK : ∀ w', Hid (MapV P k w' b (n + 1) (updF f z v)) → Hid (Touch (fun j => j = b) w w') → wpListIn F nF P ops Q rest (a.put o.dst undef) w') : wpListIn F nF P ops Q (o :: rest) a w := by
  obtain ⟨D, ho, hD, hf⟩ := h
  refine wpListIn_mapUpdate_own w hg m x y t hop k e (Maps.int_keyed hk) ht heldR b n D hm ho hn _ _ _ hx hy (Maps.keyOf_int_mk hk hw) (.held v) [] rfl (fun w' ho' hg' => hK w' ?_ (Touch.of_grownBy hg' (fun k e => by injection e with e; exact e.symm)))
  refine ⟨_, ho', ?_, fun q => ?_⟩
  · obtain ⟨es, rfl⟩ := hD; exact ⟨_, rfl⟩
  · by_cases hq : q = z
    · subst hq
      rw [Maps.has_put_same hD (show WideAt.IsKeyLit (Lit.int .i64 _) from trivial)]
      exact ⟨by simp [updF], fun u => by rw [Maps.atKey_put_same hD (show WideAt.IsKeyLit (Lit.int .i64 _) from trivial)]; simp [updF]⟩
    · have hne : (Lit.int .i64 q) ≠ .int .i64 z := fun e => hq (by injection e)
      rw [Maps.has_put_other hne]
      exact ⟨by rw [(hf q).1]; simp [updF, hq], fun u => by rw [Maps.atKey_put_other hne, (hf q).2]; simp [updF, hq]⟩
end
end Go.Proofs.Ytinofjenoapeaaa
