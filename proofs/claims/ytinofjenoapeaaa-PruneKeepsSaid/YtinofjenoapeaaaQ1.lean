/- Laws of this claim's own, over any program: values of one or many cells that lie in memory, and the operations that load, box and store them, at a fenced walk. No condition. -/
import Derived.Test.YtinofjenoapeaaaQ0
import Derived.Deep.MidRow
import Derived.Deep.WholeRow
namespace Go.Proofs.Ytinofjenoapeaaa
open Go.RowKit Go.Shelf
set_option linter.unusedSimpArgs false
set_option linter.unusedVariables false

/-- A value's cells; no rule of the walk's opens it. -/
def cv (v : Value) : Array Value := v.cells
theorem cv_eq (v : Value) : v.cells = cv v := rfl

/-- v is a value of type T, as memory takes it. -/
structure VOf (P : Program) (T : TypeId) (v : Value) : Prop where
  one : (cv v).all (·.oneCell') = true
  size : (P.info? T).map (·.size) = some (cv v).size
  agg : (∃ d, P.underlying T = some d ∧ d.isRow = true ∧ v = .agg (cv v)) ∨ (∃ d, P.underlying T = some d ∧ d.isRow = false ∧ (cv v) = #[v])

/-- Block B is a variable of type T that holds v. -/
def BoxV (w : World) (B : Nat) (T : TypeId) (v : Value) : Prop := w.heap[B]? = some (.cells (cv v) T (0, 0))
theorem BoxV.lt {w : World} {B : Nat} {T : TypeId} {v : Value} (h : BoxV w B T v) : B < w.heap.size := (Array.getElem?_eq_some_iff.1 h).1
theorem BoxV.new (w : World) (T : TypeId) (v : Value) : BoxV (w.alloc (.cells (cv v) T)) w.heap.size T v := World.alloc_heap_new w _
theorem BoxV.alloc {w : World} {B : Nat} {T : TypeId} {v : Value} (h : BoxV w B T v) (o : Obj) : BoxV (w.alloc o) B T v := (Below.heap_alloc w o B h.lt).trans h
theorem BoxV.drew {w : World} {B : Nat} {T : TypeId} {v : Value} (h : BoxV w B T v) : BoxV w.drew B T v := h
theorem BoxV.touch {S : Nat → Prop} {w w' : World} {B : Nat} {T : TypeId} {v : Value} (h : BoxV w B T v) (ht : Touch S w w') (hn : ¬ S B) : BoxV w' B T v := ht.heap h hn
theorem BoxV.set {w : World} {B : Nat} {T : TypeId} {v : Value} (h : BoxV w B T v) (v' : Value) : BoxV (w.setRow B (cv v')) B T v' := setRow_heap w B _ _ _ _ h
theorem BoxV.setOther {w : World} {B : Nat} {T : TypeId} {v : Value} (h : BoxV w B T v) (B' : Nat) (cs : Array Value) (hn : B ≠ B') : BoxV (w.setRow B' cs) B T v := (setRow_other w B' B cs hn).trans h
theorem Touch.setRow {S : Nat → Prop} (w : World) (B : Nat) (cs : Array Value) (h : S B) : Touch S w (w.setRow B cs) :=
  ⟨rfl, rfl, rfl, by simp, fun k _ hn => setRow_other w B k cs (fun e => hn (e ▸ h))⟩
theorem BoxV.cell {w : World} {B : Nat} {T : TypeId} {v : Value} (h : BoxV w B T v) (h1 : (cv v) = #[v]) : w.cell? ⟨B, 0, none⟩ = some v := by
  rw [cell_of_row w B 0 _ T _ h, h1]; rfl
theorem BoxV.setCell {w : World} {B : Nat} {T : TypeId} {v v' : Value} (h : BoxV w B T v) (h1 : cv v = #[v]) (h2 : cv v' = #[v']) : BoxV (w.setCell ⟨B, 0, none⟩ v') B T v' := by
  unfold BoxV
  rw [heap_setCell_same w B 0 _ T v' h, h1, h2]; rfl
theorem BoxV.frozen {w : World} {B : Nat} {T : TypeId} {v : Value} (h : BoxV w B T v) : w.frozen? ⟨B, 0, none⟩ = false := frozen_of_row w B 0 _ T h

section runs
variable {P : Program}
theorem run_loadVar_of (w : World) (b o : Nat) (T : TypeId) (v : Value) (hv : VOf P T v) (hr : w.rangeAt b o (cv v).toList) : (loadVar T ⟨b, o, none⟩).run P w = .ok v w := by
  rcases hv.agg with ⟨d, hu, hd, hag⟩ | ⟨d, hu, hd, h1⟩
  · have := run_loadVar_mid w b o T (cv v).toList d hr hu hd (by rw [hv.size]; simp)
    rw [this]
    simp only [Array.toArray_toList]
    rw [← hag]
  · have hc := hr 0 v (by rw [h1]; rfl)
    have hagg : (isAgg T).run P w = .ok false w := by
      unfold isAgg
      rw [Sem.run_bind, run_underlying hu w]
      cases d <;> simp_all
    simp only [Nat.add_zero] at hc
    simp [loadVar, Sem.run_bind, hagg, hc]
theorem rangeAt_box {w : World} {B : Nat} {T : TypeId} {v : Value} (h : BoxV w B T v) : w.rangeAt B 0 (cv v).toList := by
  intro j u hu
  rw [cell_of_row w B (0 + j) _ T _ h]
  simpa using hu
theorem run_storeVar_of (w : World) (B : Nat) (T T' : TypeId) (v v0 : Value) (hv : VOf P T v) (hb : BoxV w B T' v0) (hs : (cv v0).size = (cv v).size) : (storeVar T ⟨B, 0, none⟩ v).run P w = .ok () (w.setRow B (cv v)) := by
  have := run_storeCells_from (P := P) B T' (cv v).toList 0 (cv v0) w hb (by simp; omega) (fun u hu => (Array.all_eq_true_iff_forall_mem.1 hv.one) u (by simpa using hu))
  cases hq : P.info? T with
  | none => have := hv.size; simp [hq] at this
  | some i =>
    have hsz : (cv v).size = i.size := by have := hv.size; simp [hq] at this; omega
    simp [storeVar, sizeOf, typeInfo, hq, cv_eq, hsz, this]
end runs

section ops
variable {F : Fence} {n : Nat} {P : Program} {ops : Array Oper} {rest : List Oper} {o : Oper} {a : Act} {w : World} {Q : Exit → Act → World → Prop}

theorem wpListIn_val (hF : IsWide F) (hg : Region.wanted o (yielded ops a.tmps) = true) (hnd : ∀ c, o.op ≠ .defer c) {v : Value} {w' : World} (hrun : (execOp a.eval o).run P w = .ok (.value v) w')
    (h : wpListIn F n P ops Q rest (a.put o.dst v) w') : wpListIn F n P ops Q (o :: rest) a w := by
  unfold wpListIn
  rw [if_pos hg]
  refine ⟨fun _ _ => hF.fn _, ?_⟩
  rw [Oper.semAt_eq _ _ _ hnd, hrun]
  exact h
theorem wpListIn_unit (hF : IsWide F) (hg : Region.wanted o (yielded ops a.tmps) = true) (hnd : ∀ c, o.op ≠ .defer c) {w' : World} (hrun : (execOp a.eval o).run P w = .ok .skip w')
    (h : wpListIn F n P ops Q rest (a.put o.dst undef) w') : wpListIn F n P ops Q (o :: rest) a w := by
  unfold wpListIn
  rw [if_pos hg]
  refine ⟨fun _ _ => hF.fn _, ?_⟩
  rw [Oper.semAt_eq _ _ _ hnd, hrun]
  exact h

/-- A load of a value, whatever its cells. -/
theorem wpListIn_loadv (hF : IsWide F) (hg : Region.wanted o (yielded ops a.tmps) = true) (T : TypeId) (x : Operand) (ho : o.op = .load T x) {b off : Nat} (hx : a.eval x = .pointer (some ⟨b, off, none⟩)) {v : Value} (hv : VOf P T v) (hr : w.rangeAt b off (cv v).toList)
    (h : wpListIn F n P ops Q rest (a.put o.dst v) w) : wpListIn F n P ops Q (o :: rest) a w := by
  refine wpListIn_val hF hg (fun c => by rw [ho]; exact fun h => by cases h) ?_ h
  simp [execOp, ho, hx, Instr.loadAt, Instr.sureAddr, Sem.run_bind, run_loadVar_of w b off T v hv hr, Result.andThen]
theorem wpListIn_loadbox (hF : IsWide F) (hg : Region.wanted o (yielded ops a.tmps) = true) (T : TypeId) (x : Operand) (ho : o.op = .load T x) {B : Nat} {T' : TypeId} (hx : a.eval x = .pointer (some ⟨B, 0, none⟩)) {v : Value} (hb : BoxV w B T' v) (hv : VOf P T v)
    (h : wpListIn F n P ops Q rest (a.put o.dst v) w) : wpListIn F n P ops Q (o :: rest) a w :=
  wpListIn_loadv hF hg T x ho hx hv (rangeAt_box hb) h
/-- A parameter or a variable is boxed. -/
theorem wpListIn_boxv (hF : IsWide F) (hg : Region.wanted o (yielded ops a.tmps) = true) (T : TypeId) (x : Operand) (ho : o.op = .box T x) {v : Value} (hx : a.eval x = v)
    (h : wpListIn F n P ops Q rest (a.put o.dst (.pointer (some ⟨w.heap.size, 0, none⟩))) (w.alloc (.cells (cv v) T))) : wpListIn F n P ops Q (o :: rest) a w := by
  refine wpListIn_val hF hg (fun c => by rw [ho]; exact fun h => by cases h) ?_ h
  simp [execOp, ho, hx, Instr.box, newVar, newRow, cv_eq, Sem.run_bind, Result.andThen]
/-- A new variable at its zero value. -/
theorem wpListIn_allocv (hF : IsWide F) (hg : Region.wanted o (yielded ops a.tmps) = true) (T : TypeId) (ho : o.op = .alloc T) {z : Value} (hz : ∀ w, (zeroValue T).run P w = .ok z w)
    (h : wpListIn F n P ops Q rest (a.put o.dst (.pointer (some ⟨w.heap.size, 0, none⟩))) (w.alloc (.cells (cv z) T))) : wpListIn F n P ops Q (o :: rest) a w := by
  refine wpListIn_val hF hg (fun c => by rw [ho]; exact fun h => by cases h) ?_ h
  simp [execOp, ho, Instr.alloc, newVar, newRow, cv_eq, Sem.run_bind, hz, Result.andThen]
/-- A store of a value into a variable. -/
theorem wpListIn_storev (hF : IsWide F) (hg : Region.wanted o (yielded ops a.tmps) = true) (T : TypeId) (x y : Operand) (ho : o.op = .store T x y) {B : Nat} {T' : TypeId} (hx : a.eval x = .pointer (some ⟨B, 0, none⟩)) {v0 v : Value} (hy : a.eval y = v) (hb : BoxV w B T' v0)
    (hv : VOf P T v) (hs : (cv v0).size = (cv v).size)
    (h : wpListIn F n P ops Q rest (a.put o.dst undef) (w.setRow B (cv v))) : wpListIn F n P ops Q (o :: rest) a w := by
  refine wpListIn_unit hF hg (fun c => by rw [ho]; exact fun h => by cases h) ?_ h
  simp [execOp, ho, hx, hy, Instr.storeAt, Instr.sureAddr, Sem.run_bind, run_storeVar_of w B T T' v v0 hv hb hs, Result.andThen]
/-- 'x := v' of a variable that lives in memory: the two operations at once. -/
theorem wpListIn_newv {o2 : Oper} (hF : IsWide F) (hg : Region.wanted o (yielded ops a.tmps) = true) (hg2 : Region.wanted o2 (yielded ops (a.put o.dst (.pointer (some ⟨w.heap.size, 0, none⟩))).tmps) = true) (T : TypeId) (ho : o.op = .alloc T) {z : Value} (hz : ∀ w, (zeroValue T).run P w = .ok z w) (x y : Operand) (ho2 : o2.op = .store T x y)
    {v : Value} (hx : (a.put o.dst (.pointer (some ⟨w.heap.size, 0, none⟩))).eval x = .pointer (some ⟨w.heap.size, 0, none⟩)) (hy : (a.put o.dst (.pointer (some ⟨w.heap.size, 0, none⟩))).eval y = v) (hv : VOf P T v) (hs : (cv z).size = (cv v).size)
    (h : wpListIn F n P ops Q rest ((a.put o.dst (.pointer (some ⟨w.heap.size, 0, none⟩))).put o2.dst undef) (w.alloc (.cells (cv v) T))) : wpListIn F n P ops Q (o :: o2 :: rest) a w := by
  refine wpListIn_allocv hF hg T ho hz ?_
  refine wpListIn_storev hF hg2 T x y ho2 hx hy (BoxV.new w T z) hv hs ?_
  rw [World.setRow_alloc_new]
  exact h
end ops

section calls
variable {F : Fence} {n : Nat} {P : Program} {ops : Array Oper} {rest : List Oper} {o : Oper} {a : Act} {w : World} {Q : Exit → Act → World → Prop}
/-- A call of a known closure, by its contract. -/
theorem wpListIn_callc (hF : IsWide F) {f : Operand} {xs : Array Operand} {ts : Array TypeId} (hop : o.op = Op.call { callee := Callee.value f, args := xs, argTypes := ts })
    (hw : Region.wanted o (yielded ops a.tmps) = true) {g : Nat} {lb args : Array Value} (hf : a.eval f = .func (.func g) #[] lb) (eg : Enters P g) {R : Ending → World → Prop}
    (hc : Calls P g (args ++ lb) w R) (hargs : (xs.toList.map a.eval).toArray = args) (h : ∀ e w', Hid (R e w') → yNext o a (wpListIn F n P ops Q rest) Q e w') : wpListIn F n P ops Q (o :: rest) a w :=
  wpListIn_ycall hF hop hw hf hargs (.inr ⟨g, lb, rfl, eg, hc.mono (fun e w' hr => h e w' hr)⟩)
/-- A call of a declared function, by its contract. -/
theorem wpListIn_callf (hF : IsWide F) (g : Nat) {xs : Array Operand} {ts : Array TypeId} (hop : o.op = Op.call { callee := Callee.value (.func g), args := xs, argTypes := ts })
    (hw : Region.wanted o (yielded ops a.tmps) = true) (eg : Enters P g) {args : Array Value} {R : Ending → World → Prop}
    (hc : Calls P g args w R) (hargs : (xs.toList.map a.eval).toArray = args) (h : ∀ e w', Hid (R e w') → yNext o a (wpListIn F n P ops Q rest) Q e w') : wpListIn F n P ops Q (o :: rest) a w :=
  wpListIn_ycall hF hop hw (y := .func (.func g) #[] #[]) rfl hargs (.inr ⟨g, #[], rfl, eg, by rw [Array.append_empty]; exact hc.mono h⟩)
theorem wpListIn_pass (hF : IsWide F) (hw : Region.wanted o (yielded ops a.tmps) = false) (h : wpListIn F n P ops Q rest (a.put o.dst undef) w) : wpListIn F n P ops Q (o :: rest) a w := by
  unfold wpListIn
  rw [if_neg (by rw [hw]; simp)]
  exact ⟨fun _ _ => hF.fn _, h⟩
theorem YCall.isFunc {y : Value} {args : Array Value} {R : Ending → World → Prop} (h : YCall P y args w R) : ∃ f lb, y = .func f #[] lb := by
  rcases h with ⟨l, fn, tmps, assign, body, hy, _⟩ | ⟨g, lb, hy, _⟩
  · exact ⟨_, _, hy⟩
  · exact ⟨_, _, hy⟩
end calls

/-! ### results that lie in memory -/
theorem results_box1 {P : Program} {fn : Func} {p : Tmp} {T T' : TypeId} (h : fn.results = #[.cell p T]) {tmps : Array Value} {w : World} {B : Nat} {v : Value} (hp : tmps.getD p undef = .pointer (some ⟨B, 0, none⟩)) (hb : BoxV w B T' v) (hv : VOf P T v) :
    (results fn tmps).run P w = .ok v w := by
  have hp' : tmps[p]?.getD undef = .pointer (some ⟨B, 0, none⟩) := by simpa using hp
  simp [results, h, hp', asAddr, run_loadVar_of w B 0 T v hv (rangeAt_box hb)]
theorem results_box2 {P : Program} {fn : Func} {p q : Tmp} {T U T' U' : TypeId} (h : fn.results = #[.cell p T, .cell q U]) {tmps : Array Value} {w : World} {B C : Nat} {v u : Value} (hp : tmps.getD p undef = .pointer (some ⟨B, 0, none⟩)) (hq : tmps.getD q undef = .pointer (some ⟨C, 0, none⟩))
    (hb : BoxV w B T' v) (hc : BoxV w C U' u) (hv : VOf P T v) (hu : VOf P U u) : (results fn tmps).run P w = .ok (.tuple #[v, u]) w := by
  have hp' : tmps[p]?.getD undef = .pointer (some ⟨B, 0, none⟩) := by simpa using hp
  have hq' : tmps[q]?.getD undef = .pointer (some ⟨C, 0, none⟩) := by simpa using hq
  simp [results, h, hp', hq', asAddr, run_loadVar_of w B 0 T v hv (rangeAt_box hb), run_loadVar_of w C 0 U u hu (rangeAt_box hc)]

theorem results_box_tmp {P : Program} {fn : Func} {p q : Tmp} {T T' : TypeId} (h : fn.results = #[.cell p T, .tmp q]) {tmps : Array Value} {w : World} {B : Nat} {v u : Value} (hp : tmps.getD p undef = .pointer (some ⟨B, 0, none⟩)) (hq : tmps.getD q undef = u)
    (hb : BoxV w B T' v) (hv : VOf P T v) : (results fn tmps).run P w = .ok (.tuple #[v, u]) w := by
  have hp' : tmps[p]?.getD undef = .pointer (some ⟨B, 0, none⟩) := by simpa using hp
  have hq' : tmps[q]?.getD undef = u := by simpa using hq
  simp [results, h, hp', hq', asAddr, run_loadVar_of w B 0 T v hv (rangeAt_box hb)]

/-! ### slices of values -/
/-- The slice value v reads as xs in w, its elements of k cells each. -/
def SliceAt (w : World) (k : Nat) (v : Value) (xs : List Value) : Prop :=
  ∃ A c, v = .slice A xs.length c ∧ xs.length ≤ c ∧ (A = none → c = 0) ∧ ∀ i x, xs[i]? = some x → ∃ b o, A = some ⟨b, o, none⟩ ∧ w.rangeAt b (o + i * k) (cv x).toList
/-- The block in which a slice lies. -/
def sliceBlk : Value → Nat → Prop
  | .slice (some a) _ _, b => a.block = b
  | _, _ => False
theorem SliceAt.touch {w w' : World} {k : Nat} {v : Value} {xs : List Value} (h : SliceAt w k v xs) {S : Nat → Prop} (ht : Touch S w w') (hn : ∀ b, sliceBlk v b → ¬ S b) : SliceAt w' k v xs := by
  obtain ⟨A, c, rfl, hc, hA, hx⟩ := h
  refine ⟨A, c, rfl, hc, hA, fun i x hi => ?_⟩
  obtain ⟨b, o, rfl, hr⟩ := hx i x hi
  exact ⟨b, o, rfl, fun j u hu => ht.cell (hr j u hu) (hn b rfl)⟩
theorem SliceAt.same {w w' : World} {k : Nat} {v : Value} {xs : List Value} (h : SliceAt w k v xs) (hn : ∀ b, sliceBlk v b → w'.heap[b]? = w.heap[b]?) : SliceAt w' k v xs := by
  obtain ⟨A, c, rfl, hc, hA, hx⟩ := h
  refine ⟨A, c, rfl, hc, hA, fun i x hi => ?_⟩
  obtain ⟨b, o, rfl, hr⟩ := hx i x hi
  exact ⟨b, o, rfl, fun j u hu => (World.cell?_of_block (hn b rfl)).trans (hr j u hu)⟩

theorem lt_of_same {w w' : World} {k : Nat} (h : k < w.heap.size) (e : w'.heap[k]? = w.heap[k]?) : k < w'.heap.size := by
  rw [Array.getElem?_eq_getElem h] at e
  exact (Array.getElem?_eq_some_iff.1 e).1

/-! ### yield's arguments in the round's temporaries -/
theorem fold1 (p : Tmp) (x : Value) (t : Array Value) : (#[p].zip #[x]).foldl (fun t (p, v) => t.setIfInBounds p v) t = t.setIfInBounds p x := by simp
theorem fold2 (p q : Tmp) (x y : Value) (t : Array Value) : (#[p, q].zip #[x, y]).foldl (fun t (p, v) => t.setIfInBounds p v) t = (t.setIfInBounds p x).setIfInBounds q y := by simp

/-! ### entering a function -/
theorem calls_enter {P : Program} {f : FuncId} {fn : Func} {c : Code} {args : Array Value} {w : World} {R : Ending → World → Prop} (hf : P.funcs[f]? = some fn) (hb : fn.body = some c)
    (h : c.wpIn Fence.wide 0 P (bodyPost P fn R) { tmps := args ++ Array.replicate (fn.ntmps - args.size) undef, defers := [] } w) : Calls P f args w R :=
  isWide_wide.calls (n := 0) (callsIn_of_wp hf hb trivial h rfl)
theorem calls_enterM {P : Program} {f : FuncId} {fn : Func} {c : Code} {args : Array Value} {w : World} {R : Ending → World → Prop} (hf : P.funcs[f]? = some fn) (hb : fn.body = some c)
    (h : c.wpIn Fence.wide 0 P (bodyPostM Fence.wide 0 P fn R) { tmps := args ++ Array.replicate (fn.ntmps - args.size) undef, defers := [] } w) : Calls P f args w R :=
  isWide_wide.calls (n := 0) (callsIn_of_wp_marks hf hb trivial h rfl)
/-- At the end of a function that held one range over a function: the block for its rounds' deferred calls is shut. -/
theorem leaves_one {P : Program} {fn : Func} {tmps : Array Value} {R : Ending → World → Prop} {w : World} {D : Nat} (hD : w.heap[D]? = some (.deferred (some []))) {v : Value} (hr : (results fn tmps).run P (w.putObj D (.deferred none)) = .ok v (w.putObj D (.deferred none)))
    (h : R (.returned v) (w.putObj D (.deferred none))) : LeavesInM Fence.wide 0 P fn tmps R [{ target := .collected D, args := #[] }] .returning w :=
  ⟨by simp, .inl ⟨D, _, rfl, run_takeDeferred hD, _, hr, h⟩⟩

/-! ### what a party owns apart from a footprint -/
def Apart (Fp O : Nat → Prop) (A : World) : Prop := ∀ k, O k → k < A.heap.size ∧ ¬ Fp k
theorem Apart.step {Fp O O' : Nat → Prop} {A B : World} (h : Apart Fp O A) (hF : ∀ k, Fp k → k < A.heap.size) (hs : Step O O' A B) : Apart Fp O' B := fun k hk =>
  ⟨(hs.own k hk).2, fun hf => (hs.own k hk).1.elim (fun ho => (h k ho).2 hf) (fun hn => by have := hF k hf; omega)⟩
theorem Apart.grow {Fp O : Nat → Prop} {A B : World} (h : Apart Fp O A) (hs : A.heap.size ≤ B.heap.size) : Apart Fp O B := fun k hk => ⟨Nat.lt_of_lt_of_le (h k hk).1 hs, (h k hk).2⟩
/-- What a party turns that owns nothing of a footprint leaves the footprint alone. -/
theorem Step.same {O O' Fp : Nat → Prop} {A B : World} (h : Step O O' A B) (ha : Apart Fp O A) (hF : ∀ k, Fp k → k < A.heap.size) {k : Nat} (hk : Fp k) : B.heap[k]? = A.heap[k]? :=
  h.touch.block k (hF k hk) (fun ho => (ha k ho).2 hk)

theorem getElem?_mid {α : Type} (pre : List α) (x : α) (post : List α) : (pre ++ x :: post)[pre.length]? = some x := by simp

end Go.Proofs.Ytinofjenoapeaaa
