/- Rules of this claim's own, over any program: one operation of a region, by what is known of the frame and of the world. No condition. -/
import Derived.Test.YtinofjenoapeaaaS0
import Derived.IntWalk
namespace Go.Proofs.Ytinofjenoapeaaa
open Go.RowKit Go.Shelf
set_option linter.unusedSimpArgs false
set_option linter.unusedVariables false

/-! ### parties: a variable, a slice that is read, a slice that is owned -/
def ptr (B : Nat) : Value := .pointer (some ⟨B, 0, none⟩)
def BoxC (B : Nat) (T : TypeId) (v : Value) : Ch where
  p O w := BoxV w B T v ∧ ∀ k, O k ↔ k = B
  st h _ hk := ⟨(hk B ((h.2 B).2 rfl)).trans h.1, h.2⟩
  lt h k hk := by rw [(h.2 k).1 hk]; exact h.1.lt
def SlC (k : Nat) (v : Value) (xs : List Value) : Ch where
  p O w := SliceAt w k v xs ∧ (xs ≠ [] → ∀ b, sliceBlk v b → O b) ∧ ∀ b, O b → b < w.heap.size
  st {O A B} h hs hk := by
    refine ⟨?_, h.2.1, fun b hb => Nat.lt_of_lt_of_le (h.2.2 b hb) hs⟩
    by_cases hx : xs = []
    · subst hx
      obtain ⟨A', c, h1, h2, h3, _⟩ := h.1
      exact ⟨A', c, h1, h2, h3, fun i x hi => by simp at hi⟩
    · exact h.1.same (fun b hb => hk b (h.2.1 hx b hb))
  lt h k hk := h.2.2 k hk
theorem SlC.mk {k : Nat} {v : Value} {xs : List Value} {w : World} (h : SliceAt w k v xs) (h1 : ∀ x ∈ xs, (cv x).size ≠ 0) : ∃ O, (SlC k v xs).p O w := ⟨fun b => b < w.heap.size, h, fun hx b hb => by
  cases xs with
  | nil => exact absurd rfl hx
  | cons x xs =>
    obtain ⟨A, c, rfl, hc, hA, hel⟩ := h
    obtain ⟨b', o, rfl, hr⟩ := hel 0 x rfl
    obtain ⟨u, hu⟩ : ∃ u, (cv x).toList[0]? = some u := by
      have := h1 x (by simp)
      exact ⟨(cv x)[0], by simp⟩
    have h2 := World.block_lt_of_cell? w _ (hr 0 u hu)
    obtain rfl : b' = b := hb
    exact h2, fun b hb => hb⟩
/-- A row of the call's own: v reads as xs; its elements are of type e, k cells each. -/
def RowC (e : TypeId) (k : Nat) (v : Value) (xs : List Value) : Ch where
  p O w := w.ownsRow 0 e k v xs.length (cellsOf xs) ∧ (v = .slice none 0 0 → xs = []) ∧ (∀ x ∈ xs, (cv x).size = k) ∧ ∀ j, O j ↔ v.ownBlock = some j
  st {O A B} h hs hk := by
    refine ⟨⟨h.1.1, ?_⟩, h.2⟩
    rcases h.1.2 with h1 | ⟨g, cap, cur, rfl, h2, h3, h4⟩
    · exact .inl h1
    · exact .inr ⟨g, cap, cur, rfl, h2, (hk g ((h.2.2.2 g).2 rfl)).trans h3, h4⟩
  lt {O A} h k hk := by
    have hb := (h.2.2.2 k).1 hk
    rcases h.1.2 with ⟨rfl, _⟩ | ⟨g, cap, cur, rfl, h2, h3, h4⟩
    · cases hb
    · cases hb; exact (Array.getElem?_eq_some_iff.1 h3).1
theorem RowC.sl {e : TypeId} {k : Nat} {v : Value} {xs : List Value} {O : Nat → Prop} {w : World} (h : (RowC e k v xs).p O w) : SliceAt w k v xs := SliceAt.of_owns h.2.2.1 h.1 rfl h.2.1
theorem RowC.slC {e : TypeId} {k : Nat} {v : Value} {xs : List Value} {O : Nat → Prop} {w : World} (h : (RowC e k v xs).p O w) : ∃ O', (SlC k v xs).p O' w ∧ ∀ j, O' j → O j :=
  ⟨O, ⟨RowC.sl h, fun _ b hb => (h.2.2.2 b).2 (by cases v <;> simp [sliceBlk] at hb; rename_i a n c; cases a <;> simp [sliceBlk] at hb; simp [Value.ownBlock, hb]), (RowC e k v xs).lt h⟩, fun _ h => h⟩
/-- In every world of a class, c stands. -/
def Has (G : World → Prop) (c : Ch) : Prop := ∀ w, G w → ∃ O, c.p O w
theorem Has.r {W0 : World} {X : Nat → Prop} {R C : List Ch} {c : Ch} (h : c ∈ R) : Has (St W0 X R C) c := fun w hw => hw.hasR h
theorem Has.c {W0 : World} {X : Nat → Prop} {R C : List Ch} {c : Ch} (h : c ∈ C) : Has (St W0 X R C) c := fun w hw => hw.hasC h
/-- The class of worlds in which all of some parties stand. -/
def Gk (Kc Kr : List Ch) (w : World) : Prop := (∀ c ∈ Kc, ∃ O, c.p O w) ∧ ∀ c ∈ Kr, ∃ O, c.p O w
theorem Has.kc {Kc Kr : List Ch} {c : Ch} (h : c ∈ Kc) : Has (Gk Kc Kr) c := fun w hw => hw.1 c h
theorem Has.kr {Kc Kr : List Ch} {c : Ch} (h : c ∈ Kr) : Has (Gk Kc Kr) c := fun w hw => hw.2 c h
/-- In every world of a class, v reads as xs. -/
def Rdg (G : World → Prop) (k : Nat) (v : Value) (xs : List Value) : Prop := ∀ w, G w → SliceAt w k v xs
theorem Has.sl {G : World → Prop} {k : Nat} {v : Value} {xs : List Value} (h : Has G (SlC k v xs)) : Rdg G k v xs := fun w hw => let ⟨_, h1⟩ := h w hw; h1.1
theorem Has.row {G : World → Prop} {e : TypeId} {k : Nat} {v : Value} {xs : List Value} (h : Has G (RowC e k v xs)) : Rdg G k v xs := fun w hw => let ⟨_, h1⟩ := h w hw; RowC.sl h1
theorem Has.box {G : World → Prop} {B : Nat} {T : TypeId} {v : Value} (h : Has G (BoxC B T v)) {w : World} (hw : G w) : BoxV w B T v := let ⟨_, h1⟩ := h w hw; h1.1
/-- Where an element of a slice lies. -/
def elemP (v : Value) (k i : Nat) : Value := match v with | .slice (some a) _ _ => .pointer (some ⟨a.block, a.off + i * k, none⟩) | _ => .pointer none
/-- One-celled types. -/
def oneT (P : Program) (T : TypeId) : Bool := match P.underlying T, P.info? T with | some d, some i => !d.isRow && i.size == 1 | _, _ => false
theorem vof1 {P : Program} {T : TypeId} {v : Value} (hT : oneT P T = true) (hc : cv v = #[v]) (h1 : v.oneCell' = true) : VOf P T v := by
  unfold oneT at hT
  split at hT
  · rename_i d i e1 e2
    simp at hT
    exact vof_one e1 (by simpa using hT.1) (by rw [e2]; simp [hT.2]) hc h1
  · cases hT
/-- Types of k cells that are rows. -/
def aggT (P : Program) (T : TypeId) (k : Nat) : Bool := match P.underlying T, P.info? T with | some d, some i => d.isRow && i.size == k | _, _ => false
theorem vofk {P : Program} {T : TypeId} {cs : Array Value} {k : Nat} (hT : aggT P T k = true) (hk : cs.size = k) (h1 : cs.toList.all (·.oneCell') = true) : VOf P T (.agg cs) := by
  replace h1 : cs.all (·.oneCell') = true := by rw [← Array.all_toList]; exact h1
  unfold aggT at hT
  split at hT
  · rename_i d i e1 e2
    simp at hT
    exact ⟨h1, by rw [e2]; show some i.size = some cs.size; rw [hT.2, hk], .inl ⟨d, e1, hT.1, rfl⟩⟩
  · cases hT

def memB : List Nat → Nat → Bool
  | [], _ => false
  | x :: xs, n => bif Nat.beq x n then true else memB xs n
/-- The types of this program that are rows: structs and arrays. -/
def rowT (T : Nat) : Bool := memB [7, 8, 13, 14, 18, 19, 26, 27, 42, 43, 71, 72, 86, 87, 92, 93, 106, 149, 150, 151, 152, 153, 161, 162, 163, 164] T
theorem vofkr {P : Program} {T : TypeId} {cs : Array Value} {k : Nat} (hr : rowT T = true) (hT : aggT P T k = true) (hk : cs.size = k) (h1 : cs.toList.all (·.oneCell') = true) : VOf P T (.agg cs) := vofk hT hk h1

def lget : List Value → Nat → Option Value
  | [], _ => none
  | x :: _, 0 => some x
  | _ :: xs, n + 1 => lget xs n
theorem lget_eq : ∀ (xs : List Value) (i : Nat), lget xs i = xs[i]?
  | [], _ => by simp [lget]
  | _ :: _, 0 => by simp [lget]
  | _ :: xs, n + 1 => by simp [lget, lget_eq xs n]
/-- A cell of a row. -/
def cellAt (v : Value) (i : Nat) : Option Value := match v with
  | .agg cs => lget cs.toList i
  | _ => none
theorem cellAt_cv {v u : Value} {i : Nat} (h : cellAt v i = some u) : (cv v)[i]? = some u := by
  unfold cellAt at h
  split at h
  · rw [lget_eq] at h; simpa [cv, Value.cells] using h
  · cases h

section yl
variable {P : Program} {G : World → Prop} {n : Nat} {l : List (Nat × Value)} {d : List Deferred} {o : Oper} {v : Value}
/-- Operation o yields v in every world of a class, and leaves it alone. -/
structure Yl (P : Program) (G : World → Prop) (n : Nat) (l : List (Nat × Value)) (d : List Deferred) (o : Oper) (v : Value) : Prop where
  nd : ∀ c, o.op ≠ .defer c
  run : ∀ a w, Kn n l d a → G w → (execOp a.eval o).run P w = .ok (.value v) w
/-- It yields v1 where p, and v2 where not. -/
def Yc (P : Program) (G : World → Prop) (n : Nat) (l : List (Nat × Value)) (d : List Deferred) (o : Oper) (p : Prop) (v1 v2 : Value) : Prop := (p → Yl P G n l d o v1) ∧ (¬ p → Yl P G n l d o v2)

theorem yl_move {x : Operand} (ho : o.op = .move x) (hx : ev l x = some v) : Yl P G n l d o v := ⟨(fun c => by rw [ho]; exact (fun h => by cases h)), (fun a w ha hw => by simp [execOp, ho, ha.eval hx])⟩
theorem yl_assign {x : Operand} (ho : o.op = .assign x) (hx : ev l x = some v) : Yl P G n l d o v := ⟨(fun c => by rw [ho]; exact (fun h => by cases h)), (fun a w ha hw => by simp [execOp, ho, ha.eval hx])⟩
theorem yl_not {T : TypeId} {x : Operand} {b : Bool} (ho : o.op = .unOp .not T x) (hx : ev l x = some (.bool b)) : Yl P G n l d o (.bool (!b)) := ⟨(fun c => by rw [ho]; exact (fun h => by cases h)), (fun a w ha hw => by simp [execOp, ho, ha.eval hx, Op.unary, Result.andThen])⟩
theorem yl_not_t {T : TypeId} {x : Operand} (ho : o.op = .unOp .not T x) (hx : ev l x = some (.bool true)) : Yl P G n l d o (.bool false) := yl_not ho hx
theorem yl_not_f {T : TypeId} {x : Operand} (ho : o.op = .unOp .not T x) (hx : ev l x = some (.bool false)) : Yl P G n l d o (.bool true) := yl_not ho hx
theorem yl_neg {T : TypeId} {x : Operand} {i : Int} (ho : o.op = .unOp .neg T x) (hx : ev l x = some (.int .i64 i)) (hb : -9223372036854775808 < i ∧ i ≤ 9223372036854775807) : Yl P G n l d o (.int .i64 (-i)) := ⟨(fun c => by rw [ho]; exact (fun h => by cases h)), (fun a w ha hw => by
  have : IntKind.i64.wrap (-i) = -i := IntWalk.i64_in _ (by omega)
  simp [execOp, ho, ha.eval hx, Op.unary, Op.intArith, Result.andThen, this])⟩
theorem yl_pick_t {c x y : Operand} (ho : o.op = .pick c x y) (hc : ev l c = some (.bool true)) (hx : ev l x = some v) : Yl P G n l d o v := ⟨(fun c => by rw [ho]; exact (fun h => by cases h)), (fun a w ha hw => by simp [execOp, ho, ha.eval hx, ha.eval hc, asBool, Result.andThen])⟩
theorem yl_pick_f {c x y : Operand} (ho : o.op = .pick c x y) (hc : ev l c = some (.bool false)) (hx : ev l y = some v) : Yl P G n l d o v := ⟨(fun c => by rw [ho]; exact (fun h => by cases h)), (fun a w ha hw => by simp [execOp, ho, ha.eval hx, ha.eval hc, asBool, Result.andThen])⟩
theorem yl_extract {x : Operand} {i : Nat} {vs : Array Value} (ho : o.op = .extract x i) (hx : ev l x = some (.tuple vs)) (hi : lget vs.toList i = some v) : Yl P G n l d o v := ⟨(fun c => by rw [ho]; exact (fun h => by cases h)), (fun a w ha hw => by
  have hi : vs[i]? = some v := by rw [lget_eq] at hi; simpa using hi
  simp [execOp, ho, ha.eval hx, Instr.extract, hi, Result.andThen])⟩
theorem yl_func {f : Fn} {xs : Array Operand} {vs : List Value} (ho : o.op = .makeFunc f #[] xs) (hx : evs l xs.toList = some vs) : Yl P G n l d o (.func f #[] vs.toArray) := ⟨(fun c => by rw [ho]; exact (fun h => by cases h)), (fun a w ha hw => by
  have e := ha.evals hx
  have e2 : xs.map a.eval = vs.toArray := by rw [← e, ← Array.toList_map]
  simp [execOp, ho, Instr.makeFunc, e2, Result.andThen])⟩
theorem yl_nilCheck {x : Operand} {p : Addr} (ho : o.op = .nilCheck x) (hx : ev l x = some (.pointer (some p))) : Yl P G n l d o (.pointer (some p)) := ⟨(fun c => by rw [ho]; exact (fun h => by cases h)), (fun a w ha hw => by simp [execOp, ho, ha.eval hx, Result.andThen])⟩

/-! whole numbers -/
theorem yl_int {b : BinOp} {T T2 : TypeId} {x y : Operand} {k : IntKind} {i j : Int} (ho : o.op = .binOp b T x y T2) (hx : ev l x = some (.int k i)) (hy : ev l y = some (.int k j)) (hr : ∀ w, (binOp b T (.int k i) (.int k j)).run P w = .ok v w) : Yl P G n l d o v := ⟨(fun c => by rw [ho]; exact (fun h => by cases h)), (fun a w ha hw => by
  have hg : (eqGuard b T x y (.int k i) (.int k j)).run P w = .ok () w := by unfold eqGuard; cases b <;> simp
  simp [execOp, ho, ha.eval hx, ha.eval hy, Sem.run_bind, hg, hr w, Result.andThen])⟩
theorem yl_add {T T2 : TypeId} {x y : Operand} {i j : Int} (ho : o.op = .binOp .add T x y T2) (hx : ev l x = some (.int .i64 i)) (hy : ev l y = some (.int .i64 j)) (hb : -9223372036854775808 ≤ i + j ∧ i + j ≤ 9223372036854775807) : Yl P G n l d o (.int .i64 (i + j)) := yl_int ho hx hy (fun w => by simp [binOp, Op.intArith, IntWalk.i64_in _ hb])
theorem yl_sub {T T2 : TypeId} {x y : Operand} {i j : Int} (ho : o.op = .binOp .sub T x y T2) (hx : ev l x = some (.int .i64 i)) (hy : ev l y = some (.int .i64 j)) (hb : -9223372036854775808 ≤ i - j ∧ i - j ≤ 9223372036854775807) : Yl P G n l d o (.int .i64 (i - j)) := yl_int ho hx hy (fun w => by simp [binOp, Op.intArith, IntWalk.i64_in _ hb])
theorem yl_mul {T T2 : TypeId} {x y : Operand} {i j : Int} (ho : o.op = .binOp .mul T x y T2) (hx : ev l x = some (.int .i64 i)) (hy : ev l y = some (.int .i64 j)) (hb : -9223372036854775808 ≤ i * j ∧ i * j ≤ 9223372036854775807) : Yl P G n l d o (.int .i64 (i * j)) := yl_int ho hx hy (fun w => by simp [binOp, Op.intArith, IntWalk.i64_in _ hb])
theorem yl_addw {T T2 : TypeId} {x y : Operand} {k : IntKind} {i j : Int} (ho : o.op = .binOp .add T x y T2) (hx : ev l x = some (.int k i)) (hy : ev l y = some (.int k j)) : Yl P G n l d o (.int k (k.wrap (i + j))) := yl_int ho hx hy (fun w => by simp [binOp, Op.intArith])
theorem yl_subw {T T2 : TypeId} {x y : Operand} {k : IntKind} {i j : Int} (ho : o.op = .binOp .sub T x y T2) (hx : ev l x = some (.int k i)) (hy : ev l y = some (.int k j)) : Yl P G n l d o (.int k (k.wrap (i - j))) := yl_int ho hx hy (fun w => by simp [binOp, Op.intArith])
theorem yc_lss {T T2 : TypeId} {x y : Operand} {k : IntKind} {i j : Int} (ho : o.op = .binOp .lss T x y T2) (hx : ev l x = some (.int k i)) (hy : ev l y = some (.int k j)) : Yc P G n l d o (i < j) (.bool true) (.bool false) :=
  ⟨fun hc => yl_int ho hx hy (fun w => by simp [binOp, Op.intCmp, hc]), fun hc => yl_int ho hx hy (fun w => by simp [binOp, Op.intCmp, hc])⟩
theorem yc_leq {T T2 : TypeId} {x y : Operand} {k : IntKind} {i j : Int} (ho : o.op = .binOp .leq T x y T2) (hx : ev l x = some (.int k i)) (hy : ev l y = some (.int k j)) : Yc P G n l d o (i ≤ j) (.bool true) (.bool false) :=
  ⟨fun hc => yl_int ho hx hy (fun w => by simp [binOp, Op.intCmp, hc]), fun hc => yl_int ho hx hy (fun w => by simp [binOp, Op.intCmp, hc])⟩
theorem yc_gtr {T T2 : TypeId} {x y : Operand} {k : IntKind} {i j : Int} (ho : o.op = .binOp .gtr T x y T2) (hx : ev l x = some (.int k i)) (hy : ev l y = some (.int k j)) : Yc P G n l d o (j < i) (.bool true) (.bool false) :=
  ⟨fun hc => yl_int ho hx hy (fun w => by simp [binOp, Op.intCmp, hc]), fun hc => yl_int ho hx hy (fun w => by simp [binOp, Op.intCmp, hc])⟩
theorem yc_geq {T T2 : TypeId} {x y : Operand} {k : IntKind} {i j : Int} (ho : o.op = .binOp .geq T x y T2) (hx : ev l x = some (.int k i)) (hy : ev l y = some (.int k j)) : Yc P G n l d o (j ≤ i) (.bool true) (.bool false) :=
  ⟨fun hc => yl_int ho hx hy (fun w => by simp [binOp, Op.intCmp, hc]), fun hc => yl_int ho hx hy (fun w => by simp [binOp, Op.intCmp, hc])⟩
theorem yc_eql {T T2 : TypeId} {x y : Operand} {k : IntKind} {i j : Int} (ho : o.op = .binOp .eql T x y T2) (hx : ev l x = some (.int k i)) (hy : ev l y = some (.int k j)) : Yc P G n l d o (i = j) (.bool true) (.bool false) :=
  ⟨fun hc => yl_int ho hx hy (fun w => by simp [binOp, Op.intCmp, hc]), fun hc => yl_int ho hx hy (fun w => by simp [binOp, Op.intCmp, hc])⟩
theorem yc_neq {T T2 : TypeId} {x y : Operand} {k : IntKind} {i j : Int} (ho : o.op = .binOp .neq T x y T2) (hx : ev l x = some (.int k i)) (hy : ev l y = some (.int k j)) : Yc P G n l d o (i = j) (.bool false) (.bool true) :=
  ⟨fun hc => yl_int ho hx hy (fun w => by simp [binOp, Op.intCmp, hc]), fun hc => yl_int ho hx hy (fun w => by simp [binOp, Op.intCmp, hc])⟩
/-- Operations whose runs are given. -/
theorem yl_bin {b : BinOp} {T T2 : TypeId} {x y : Operand} {u1 u2 : Value} (ho : o.op = .binOp b T x y T2) (hx : ev l x = some u1) (hy : ev l y = some u2) (hr : ∀ w, (do eqGuard b T x y u1 u2; binOp b T u1 u2 : Sem Value).run P w = .ok v w) : Yl P G n l d o v := ⟨(fun c => by rw [ho]; exact (fun h => by cases h)), (fun a w ha hw => by
  have := hr w
  rw [Sem.run_bind] at this
  simp only [execOp, ho, ha.eval hx, ha.eval hy, Sem.run_bind]
  rw [this]; rfl)⟩
theorem yl_conv {S T : TypeId} {x : Operand} {u : Value} (ho : o.op = .convert S T x) (hx : ev l x = some u) (hr : ∀ w, (convert S T u).run P w = .ok v w) : Yl P G n l d o v := ⟨(fun c => by rw [ho]; exact (fun h => by cases h)), (fun a w ha hw => by simp only [execOp, ho, ha.eval hx, Sem.run_bind, hr w]; rfl)⟩
theorem yl_fieldAddr {S : TypeId} {x : Operand} {f : Nat} {u : Value} (ho : o.op = .fieldAddr S x f) (hx : ev l x = some u) (hr : ∀ w, (Instr.fieldAt S u f).run P w = .ok v w) : Yl P G n l d o v := ⟨(fun c => by rw [ho]; exact (fun h => by cases h)), (fun a w ha hw => by simp only [execOp, ho, ha.eval hx, Sem.run_bind, hr w]; rfl)⟩
theorem yl_field {S : TypeId} {x : Operand} {f : Nat} {u : Value} (ho : o.op = .field S x f) (hx : ev l x = some u) (hr : ∀ w, (Instr.field S u f).run P w = .ok v w) : Yl P G n l d o v := ⟨(fun c => by rw [ho]; exact (fun h => by cases h)), (fun a w ha hw => by simp only [execOp, ho, ha.eval hx, Sem.run_bind, hr w]; rfl)⟩
theorem yl_indexAddr {T : TypeId} {x y : Operand} {u1 u2 : Value} (ho : o.op = .indexAddr T x y) (hx : ev l x = some u1) (hy : ev l y = some u2) (hr : ∀ w, (Instr.indexAt T u1 u2).run P w = .ok v w) : Yl P G n l d o v := ⟨(fun c => by rw [ho]; exact (fun h => by cases h)), (fun a w ha hw => by simp only [execOp, ho, ha.eval hx, ha.eval hy, Sem.run_bind, hr w]; rfl)⟩
theorem yl_build {T : TypeId} {ps : Array (Nat × Operand)} {us : List (Nat × Value)} (ho : o.op = .build T ps) (hx : evs l (ps.toList.map (·.2)) = some (us.map (·.2))) (hi : ps.toList.map (·.1) = us.map (·.1)) (hr : ∀ w, (Instr.build T us.toArray).run P w = .ok v w) : Yl P G n l d o v := ⟨(fun c => by rw [ho]; exact (fun h => by cases h)), (fun a w ha hw => by
    have e := ha.evals hx
    have e2 : (ps.map fun (i, x) => (i, a.eval x)) = us.toArray := by
      have h3 : ps.toList.map (fun p => (p.1, a.eval p.2)) = us := by
        apply List.ext_getElem?
        intro k
        have h4 := congrArg (fun l : List Nat => l[k]?) hi
        have h5 := congrArg (fun l : List Value => l[k]?) e
        simp only [List.getElem?_map, List.map_map] at h4 h5 ⊢
        cases hp : ps.toList[k]? with
        | none => rw [hp] at h4; cases hu : us[k]? with
          | none => rfl
          | some q => rw [hu] at h4; cases h4
        | some p =>
          rw [hp] at h4 h5
          cases hu : us[k]? with
          | none => rw [hu] at h4; cases h4
          | some q => rw [hu] at h4 h5; simp at h4 h5 ⊢; exact Prod.ext h4 h5
      rw [← h3, ← Array.toList_map]
    simp only [execOp, ho, Sem.run_bind, e2, hr w]; rfl)⟩
/-- The types of slices of elements of k cells. -/
def slT (P : Program) (T : TypeId) (k : Nat) : Bool := match P.underlying T with | some (.slice e) => (match P.info? e with | some i => i.size == k | none => false) | _ => false
theorem yl_index {T : TypeId} {x y : Operand} {k i : Nat} {u : Value} {xs : List Value} (ho : o.op = .indexAddr T x y) (hx : ev l x = some u) (hy : ev l y = some (.int .i64 (i : Int))) (hr : Rdg G k u xs) (hT : slT P T k = true) (hi : i < xs.length) : Yl P G n l d o (elemP u k i) := ⟨(fun c => by rw [ho]; exact (fun h => by cases h)), (fun a w ha hw => by
    obtain ⟨A, c, rfl, hc, hA, hel⟩ := hr w hw
    obtain ⟨b, o', rfl, _⟩ := hel i xs[i] (by simp [hi])
    unfold slT at hT
    split at hT
    · rename_i e hu
      split at hT
      · rename_i info hinfo
        simp at hT
        have hsz : (sizeOf e).run P w = .ok k w := by simp [sizeOf, typeInfo, hinfo, hT]
        have hi0 : (i : Int) < xs.length := by omega
        simp only [execOp, ho, ha.eval hx, ha.eval hy, Instr.indexAt, asIntOf, Sem.run_bind, run_underlying hu, Result.andThen, Sem.run_pure]
        simp [Sem.run_bind, hsz, hi, elemP, Addr.add_mid, Result.andThen]
      · cases hT
    · cases hT)⟩
/-- An index of any spelling. -/
theorem yl_index_z {T : TypeId} {x y : Operand} {k : Nat} {z : Int} {u : Value} {xs : List Value} (ho : o.op = .indexAddr T x y) (hx : ev l x = some u) (hy : ev l y = some (.int .i64 z)) (hr : Rdg G k u xs) (hT : slT P T k = true) (h0 : 0 ≤ z) (hi : z < xs.length) : Yl P G n l d o (elemP u k z.toNat) :=
  yl_index (i := z.toNat) ho hx (by rw [hy, Int.toNat_of_nonneg h0]) hr hT (by omega)
/-- An element of a slice is loaded, whole. -/
theorem yl_load_elem {T : TypeId} {x : Operand} {k i : Nat} {u y : Value} {xs : List Value} (ho : o.op = .load T x) (hx : ev l x = some (elemP u k i)) (hr : Rdg G k u xs) (hy : xs[i]? = some y) (hv : VOf P T y) : Yl P G n l d o y := ⟨(fun c => by rw [ho]; exact (fun h => by cases h)), (fun a w ha hw => by
    obtain ⟨A, c, rfl, hc, hA, hel⟩ := hr w hw
    obtain ⟨b, o', rfl, hra⟩ := hel i y hy
    have e := ha.eval hx
    simp only [elemP] at e
    simp [execOp, ho, e, Instr.loadAt, Instr.sureAddr, Sem.run_bind, run_loadVar_of w b (o' + i * k) T y hv hra, Result.andThen])⟩
theorem yl_load {T T' : TypeId} {x : Operand} {B : Nat} (ho : o.op = .load T x) (hx : ev l x = some (ptr B)) (hm : Has G (BoxC B T' v)) (hv : VOf P T v) : Yl P G n l d o v := ⟨(fun c => by rw [ho]; exact (fun h => by cases h)), (fun a w ha hw => by
    have e : a.eval x = .pointer (some ⟨B, 0, none⟩) := ha.eval hx
    simp [execOp, ho, e, Instr.loadAt, Instr.sureAddr, Sem.run_bind, run_loadVar_of w B 0 T v hv (rangeAt_box (hm.box hw)), Result.andThen])⟩
/-- A field of one cell of a variable. -/
theorem yl_load_cell {T T' : TypeId} {x : Operand} {B off : Nat} {u : Value} (ho : o.op = .load T x) (hx : ev l x = some (.pointer (some ⟨B, off, none⟩))) (hm : Has G (BoxC B T' u)) (hu : cellAt u off = some v) (h1 : cv v = #[v]) (hv : VOf P T v) : Yl P G n l d o v := ⟨(fun c => by rw [ho]; exact (fun h => by cases h)), (fun a w ha hw => by
    have hu := cellAt_cv hu
    have hr : w.rangeAt B off (cv v).toList := by
      intro j u' hj
      rw [h1] at hj
      match j, hj with
      | 0, hj =>
        simp at hj; subst hj
        rw [Nat.add_zero, cell_of_row w B off _ T' _ (hm.box hw)]; exact hu
    simp [execOp, ho, ha.eval hx, Instr.loadAt, Instr.sureAddr, Sem.run_bind, run_loadVar_of w B off T v hv hr, Result.andThen])⟩
def isSlT (P : Program) (T : TypeId) : Bool := match P.underlying T with | some (.slice _) => true | _ => false
theorem yl_len {x : Operand} {T : TypeId} {k : Nat} {u : Value} {xs : List Value} (ho : o.op = Op.call { callee := Callee.builtin Builtin.len, args := #[x], argTypes := #[T] }) (hx : ev l x = some u) (hr : Rdg G k u xs) (hT : isSlT P T = true) : Yl P G n l d o (.int .i64 (xs.length : Int)) := ⟨(fun c => by rw [ho]; exact (fun h => by cases h)), (fun a w ha hw => by
    obtain ⟨A, c, rfl, hc, hA, hel⟩ := hr w hw
    unfold isSlT at hT
    split at hT
    · rename_i e hu
      simp [execOp, ho, resolve, invoke, builtin, ha.eval hx, Builtin.len_, run_underlying hu, Sem.run_bind, Result.andThen, goInt]
    · cases hT)⟩
theorem yl_len_s {x : Operand} {T : TypeId} {q : Option Addr} {i c : Nat} (ho : o.op = Op.call { callee := Callee.builtin Builtin.len, args := #[x], argTypes := #[T] }) (hx : ev l x = some (.slice q i c)) (hT : isSlT P T = true) : Yl P G n l d o (.int .i64 (i : Int)) := ⟨(fun c => by rw [ho]; exact (fun h => by cases h)), (fun a w ha hw => by
    unfold isSlT at hT
    split at hT
    · rename_i e hu
      simp [execOp, ho, resolve, invoke, builtin, ha.eval hx, Builtin.len_, run_underlying hu, Sem.run_bind, Result.andThen, goInt]
    · cases hT)⟩
end yl

section ops
variable {F : Fence} {m : Nat} {P : Program} {Q : Exit → Act → World → Prop} {K : Act → World → Prop} {n : Nat} {l : List (Nat × Value)} {d : List Deferred} {W0 : World} {X : Nat → Prop} {R C : List Ch} {o : Oper} {t : Nat} {v : Value}

/-! ### an operation in general -/
theorem on_yl (hF : IsWide F) (hd : o.dst = some t) (ht : Nat.blt t n = true) (hy : Yl P (St W0 X R C) n l d o v) (h : Nx K n ((t, v) :: l) d W0 X R C) : Nx (OpN F m P o K Q) n l d W0 X R C := fun a w ha hw => by
  refine ⟨fun _ _ => hF.fn _, ?_⟩
  rw [Oper.semAt_eq _ _ _ hy.nd, hy.run a w ha hw]
  show K (a.put o.dst v) w
  rw [hd]
  exact h _ w (ha.put ht v) hw
theorem on_E (hF : IsWide F) (hd : o.dst = some t) (ht : Nat.blt t n = true) (h : ∃ v, Yl P (St W0 X R C) n l d o v ∧ Nx K n ((t, v) :: l) d W0 X R C) : Nx (OpN F m P o K Q) n l d W0 X R C := let ⟨_, h1, h2⟩ := h; on_yl hF hd ht h1 h2
theorem on_yc (hF : IsWide F) {p : Prop} {v1 v2 : Value} (hd : o.dst = some t) (ht : Nat.blt t n = true) (hy : Yc P (St W0 X R C) n l d o p v1 v2) (h1 : p → Nx K n ((t, v1) :: l) d W0 X R C) (h2 : ¬ p → Nx K n ((t, v2) :: l) d W0 X R C) : Nx (OpN F m P o K Q) n l d W0 X R C := by
  by_cases hp : p
  · exact on_yl hF hd ht (hy.1 hp) (h1 hp)
  · exact on_yl hF hd ht (hy.2 hp) (h2 hp)
theorem on_Ec (hF : IsWide F) (hd : o.dst = some t) (ht : Nat.blt t n = true) (h : ∃ p v1 v2, Yc P (St W0 X R C) n l d o p v1 v2 ∧ (p → Nx K n ((t, v1) :: l) d W0 X R C) ∧ (¬ p → Nx K n ((t, v2) :: l) d W0 X R C)) : Nx (OpN F m P o K Q) n l d W0 X R C := let ⟨_, _, _, h1, h2, h3⟩ := h; on_yc hF hd ht h1 h2 h3
theorem on_world (hF : IsWide F) (hnd : ∀ c, o.op ≠ .defer c) (hd : o.dst = some t) (ht : Nat.blt t n = true) {ι : Type} (vv : ι → Value) (R' C' : ι → List Ch)
    (hrun : ∀ a w, Kn n l d a → St W0 X R C w → ∃ i w', (execOp a.eval o).run P w = .ok (.value (vv i)) w' ∧ St W0 X (R' i) (C' i) w')
    (h : ∀ i, Nx K n ((t, vv i) :: l) d W0 X (R' i) (C' i)) : Nx (OpN F m P o K Q) n l d W0 X R C := fun a w ha hw => by
  refine ⟨fun _ _ => hF.fn _, ?_⟩
  obtain ⟨i, w', h1, h2⟩ := hrun a w ha hw
  rw [Oper.semAt_eq _ _ _ hnd, h1]
  show K (a.put o.dst (vv i)) w'
  rw [hd]
  exact h i _ w' (ha.put ht _) h2
theorem on_unit (hF : IsWide F) (hnd : ∀ c, o.op ≠ .defer c) (hd : o.dst = none) {R' C' : List Ch}
    (hrun : ∀ a w, Kn n l d a → St W0 X R C w → ∃ w', (execOp a.eval o).run P w = .ok .skip w' ∧ St W0 X R' C' w')
    (h : Nx K n l d W0 X R' C') : Nx (OpN F m P o K Q) n l d W0 X R C := fun a w ha hw => by
  refine ⟨fun _ _ => hF.fn _, ?_⟩
  obtain ⟨w', h1, h2⟩ := hrun a w ha hw
  rw [Oper.semAt_eq _ _ _ hnd, h1]
  show K (a.put o.dst undef) w'
  rw [hd]
  exact h _ w' ha h2

/-! ### variables -/
theorem BoxC.new (w : World) (T : TypeId) (v : Value) : ∃ O', (BoxC w.heap.size T v).p O' (w.alloc (.cells (cv v) T)) ∧ ∀ k, O' k → w.heap.size ≤ k := ⟨fun k => k = w.heap.size, ⟨BoxV.new w T v, fun _ => Iff.rfl⟩, fun k hk => by omega⟩
theorem on_box (hF : IsWide F) {T : TypeId} {x : Operand} (ho : o.op = .box T x) (hd : o.dst = some t) (ht : Nat.blt t n = true) (hx : ev l x = some v) (h : ∀ B, Nx K n ((t, ptr B) :: l) d W0 X R (BoxC B T v :: C)) : Nx (OpN F m P o K Q) n l d W0 X R C :=
  on_world hF (fun c => by rw [ho]; exact fun h => by cases h) hd ht ptr (fun _ => R) (fun B => BoxC B T v :: C) (fun a w ha hw => by
    refine ⟨w.heap.size, w.alloc (.cells (cv v) T), ?_, hw.new ((Below.refl _ _).alloc (Nat.le_refl _) _) (BoxC.new w T v)⟩
    simp [execOp, ho, ha.eval hx, Instr.box, newVar, newRow, cv_eq, Sem.run_bind, Result.andThen, ptr]) h
theorem on_alloc (hF : IsWide F) {T : TypeId} {z : Value} (ho : o.op = .alloc T) (hz : ∀ w, (zeroValue T).run P w = .ok z w) (hd : o.dst = some t) (ht : Nat.blt t n = true) (h : ∀ B, Nx K n ((t, ptr B) :: l) d W0 X R (BoxC B T z :: C)) : Nx (OpN F m P o K Q) n l d W0 X R C :=
  on_world hF (fun c => by rw [ho]; exact fun h => by cases h) hd ht ptr (fun _ => R) (fun B => BoxC B T z :: C) (fun a w ha hw => by
    refine ⟨w.heap.size, w.alloc (.cells (cv z) T), ?_, hw.new ((Below.refl _ _).alloc (Nat.le_refl _) _) (BoxC.new w T z)⟩
    simp [execOp, ho, Instr.alloc, newVar, newRow, cv_eq, Sem.run_bind, hz, Result.andThen, ptr]) h
theorem on_store (hF : IsWide F) {T T' : TypeId} {x y : Operand} {B : Nat} {v0 : Value} {C' : List Ch} (ho : o.op = .store T x y) (hd : o.dst = none) (hx : ev l x = some (ptr B)) (hy : ev l y = some v) (hm : Turn C (BoxC B T' v0) (BoxC B T' v) C') (hv : VOf P T v) (hs : (cv v0).size = (cv v).size)
    (h : Nx K n l d W0 X R C') : Nx (OpN F m P o K Q) n l d W0 X R C :=
  on_unit hF (fun c => by rw [ho]; exact fun h => by cases h) hd (R' := R) (C' := C') (fun a w ha hw => by
    have hb : BoxV w B T' v0 := by
      obtain ⟨D, h1, h2⟩ := hm
      obtain ⟨_, h3⟩ := (hw.perm h1).hasC (c := BoxC B T' v0) (by simp)
      exact h3.1
    have e : a.eval x = .pointer (some ⟨B, 0, none⟩) := ha.eval hx
    refine ⟨w.setRow B (cv v), ?_, hw.turn hm (fun O ho => ⟨O, Touch.setRow _ _ _ ((ho.2 B).2 rfl), ⟨hb.set v, ho.2⟩, fun k hk => .inl hk⟩)⟩
    simp [execOp, ho, e, ha.eval hy, Instr.storeAt, Instr.sureAddr, Sem.run_bind, run_storeVar_of w B T T' v v0 hv hb hs, Result.andThen]) h

/-! ### calls -/
theorem on_call (hF : IsWide F) {g : FuncId} {xs : Array Operand} {ts : Array TypeId} {vs : List Value} {ι : Type} {ret : ι → Value} {R' C' : ι → List Ch} (ho : o.op = Op.call { callee := Callee.value (.func g), args := xs, argTypes := ts }) (hd : o.dst = some t) (ht : Nat.blt t n = true)
    (hx : evs l xs.toList = some vs) (eg : Enters P g) (hc : Ct P g vs W0 X R C ι ret R' C') (h : ∀ i, Nx K n ((t, ret i) :: l) d W0 X (R' i) (C' i)) : Nx (OpN F m P o K Q) n l d W0 X R C := fun a w ha hw => by
  have e := ha.evals hx
  refine wpIn_ycall hF ho (y := .func (.func g) #[] #[]) (args := vs.toArray) rfl (by rw [e]) (.inr ⟨g, #[], rfl, eg, ?_⟩)
  rw [Array.append_empty]
  refine (hc w hw).mono ?_
  rintro e w' ⟨i, rfl, h2⟩
  show K (a.put o.dst (ret i)) w'
  rw [hd]
  exact h i _ w' (ha.put ht _) h2
theorem on_callG (hF : IsWide F) {g : FuncId} {xs : Array Operand} {ts : Array TypeId} {vs : List Value} {ι : Type} {ret : ι → Value} {R' C' : ι → List Ch} (eg : Enters P g) (ho : o.op = Op.call { callee := Callee.value (.func g), args := xs, argTypes := ts }) (hd : o.dst = some t) (ht : Nat.blt t n = true)
    (hx : evs l xs.toList = some vs) (hc : Ct P g vs W0 X R C ι ret R' C') (h : ∀ i, Nx K n ((t, ret i) :: l) d W0 X (R' i) (C' i)) : Nx (OpN F m P o K Q) n l d W0 X R C := on_call hF ho hd ht hx eg hc h
/-- A call of a known closure. -/
theorem on_callc (hF : IsWide F) {f : Operand} {g : Nat} {lb : List Value} {xs : Array Operand} {ts : Array TypeId} {vs : List Value} {ι : Type} {ret : ι → Value} {R' C' : ι → List Ch} (ho : o.op = Op.call { callee := Callee.value f, args := xs, argTypes := ts }) (hd : o.dst = some t) (ht : Nat.blt t n = true)
    (hf : ev l f = some (.func (.func g) #[] lb.toArray)) (hx : evs l xs.toList = some vs) (eg : Enters P g) (hc : Ct P g (vs ++ lb) W0 X R C ι ret R' C') (h : ∀ i, Nx K n ((t, ret i) :: l) d W0 X (R' i) (C' i)) : Nx (OpN F m P o K Q) n l d W0 X R C := fun a w ha hw => by
  have e := ha.evals hx
  refine wpIn_ycall hF ho (y := .func (.func g) #[] lb.toArray) (args := vs.toArray) (ha.eval hf) (by rw [e]) (.inr ⟨g, lb.toArray, rfl, eg, ?_⟩)
  have hc' := hc w hw
  rw [show (vs ++ lb).toArray = vs.toArray ++ lb.toArray by simp] at hc'
  refine hc'.mono ?_
  rintro e w' ⟨i, rfl, h2⟩
  show K (a.put o.dst (ret i)) w'
  rw [hd]
  exact h i _ w' (ha.put ht _) h2
/-- A call of a function value of which a contract is known, whatever it is: a yield, a closure. -/
def Yv (P : Program) (y : Value) (vs : List Value) (W0 : World) (X : Nat → Prop) (R C : List Ch) (ι : Type) (ret : ι → Value) (R' C' : ι → List Ch) : Prop :=
  ∀ w, St W0 X R C w → YCall P y vs.toArray w (fun e w' => ∃ i, e = .returned (ret i) ∧ St W0 X (R' i) (C' i) w')
theorem on_callv (hF : IsWide F) {f : Operand} {y : Value} {xs : Array Operand} {ts : Array TypeId} {vs : List Value} {ι : Type} {ret : ι → Value} {R' C' : ι → List Ch} (ho : o.op = Op.call { callee := Callee.value f, args := xs, argTypes := ts }) (hd : o.dst = some t) (ht : Nat.blt t n = true)
    (hf : ev l f = some y) (hx : evs l xs.toList = some vs) (hc : Yv P y vs W0 X R C ι ret R' C') (h : ∀ i, Nx K n ((t, ret i) :: l) d W0 X (R' i) (C' i)) : Nx (OpN F m P o K Q) n l d W0 X R C := fun a w ha hw => by
  have e := ha.evals hx
  refine wpIn_ycall hF ho (y := y) (args := vs.toArray) (ha.eval hf) (by rw [e]) ((hc w hw).mono ?_)
  rintro e w' ⟨i, rfl, h2⟩
  show K (a.put o.dst (ret i)) w'
  rw [hd]
  exact h i _ w' (ha.put ht _) h2
/-- A contract that only computes, or makes new blocks that nobody names. -/
theorem Ct.of_retB {g : FuncId} {vs : List Value} (h : ∀ w, St W0 X R C w → Calls P g vs.toArray w (RetB w v)) : Ct P g vs W0 X R C Unit (fun _ => v) (fun _ => R) (fun _ => C) := fun w hw =>
  (h w hw).mono fun e w' ⟨h1, h2⟩ => ⟨(), h1, hw.later h2⟩
theorem Ct.retB {g : FuncId} {vs : List Value} {w : World} (h : Ct P g vs w (fun _ => False) R [] Unit (fun _ => v) (fun _ => R) (fun _ => [])) (hw : ∀ r ∈ R, ∃ O, r.p O w) : Calls P g vs.toArray w (RetB w v) :=
  (h w (St.start w R hw)).mono fun e w' ⟨_, h1, h2⟩ => ⟨h1, h2.below⟩
end ops

end Go.Proofs.Ytinofjenoapeaaa
