/- Rules of this claim's own, over any program: least and greatest; stores into rows and into fields; maps with whole numbers for keys; rows that are made; copy. No condition. -/
import Derived.Test.YtinofjenoapeaaaS8
import Derived.Test.YtinofjenoapeaaaMapV
import Derived.Laws.CopyRow
import Derived.Laws.OwnMore
namespace Go.Proofs.Ytinofjenoapeaaa
open Go.RowKit Go.Shelf
set_option linter.unusedSimpArgs false
set_option linter.unusedVariables false

/-! ### lists that are written into -/
def putL {α : Type} (A B : List α) (a : Nat) : List α := A.take a ++ B ++ A.drop (a + B.length)
theorem putL_len {α : Type} {A B : List α} {a : Nat} (h : a + B.length ≤ A.length) : (putL A B a).length = A.length := by simp [putL]; omega
theorem putL_at {α : Type} {A B : List α} {a : Nat} (h : a + B.length ≤ A.length) (j : Nat) : (putL A B a)[j]? = if j < a then A[j]? else if j < a + B.length then B[j - a]? else A[j]? := by
  unfold putL
  rw [List.append_assoc]
  by_cases h1 : j < a
  · rw [if_pos h1, List.getElem?_append_left (by simp; omega), List.getElem?_take, if_pos h1]
  · rw [if_neg h1, List.getElem?_append_right (by simp; omega)]
    have e : (A.take a).length = a := by simp; omega
    rw [e]
    by_cases h2 : j < a + B.length
    · rw [if_pos h2, List.getElem?_append_left (by omega)]
    · rw [if_neg h2, List.getElem?_append_right (by omega), List.getElem?_drop]
      congr 1; omega
theorem putL_take {α : Type} {A B : List α} {a m : Nat} (h : a + B.length ≤ m) (hm : m ≤ A.length) : (putL A B a).take m = putL (A.take m) B a := by
  apply List.ext_getElem?
  intro j
  rw [List.getElem?_take, putL_at (by omega), putL_at (by simp; omega)]
  simp only [List.getElem?_take]
  by_cases h1 : j < m
  · simp [h1]
  · simp [h1, show ¬ j < a by omega, show ¬ j < a + B.length by omega]
theorem flat_set {α : Type} {k : Nat} (ls : List (List α)) (hk : ∀ l ∈ ls, l.length = k) (i : Nat) (hi : i < ls.length) (b : List α) (hb : b.length = k) : (ls.set i b).flatten = putL ls.flatten b (i * k) := by
  have e : ls = ls.take i ++ ls[i] :: ls.drop (i + 1) := by simp
  have hl : ((ls.take i).flatten).length = i * k := by rw [flat_len (k := k) _ (fun l hl => hk l (List.mem_of_mem_take hl)), List.length_take, Nat.min_eq_left (by omega)]
  have hli : ls[i].length = k := hk _ (List.getElem_mem hi)
  have e2 : ls.set i b = ls.take i ++ b :: ls.drop (i + 1) := List.set_eq_take_append_cons_drop .. |>.trans (by rw [if_pos hi])
  have e3 : ls.flatten = (ls.take i).flatten ++ (ls[i] ++ (ls.drop (i + 1)).flatten) := by
    conv => lhs; rw [e]
    rw [List.flatten_append, List.flatten_cons]
  rw [e2, List.flatten_append, List.flatten_cons, e3]
  have e4 : ∀ (A B C D : List α), A.length = i * k → B.length = k → D.length = k → putL (A ++ (B ++ C)) D (i * k) = A ++ (D ++ C) := fun A B C D h1 h2 h3 => by
    unfold putL
    rw [List.take_append_of_le_length (by omega), List.take_of_length_le (by omega), List.append_assoc, ← List.append_assoc A B C, List.drop_append, List.drop_of_length_le (by simp; omega), List.length_append, h1, h2, h3, Nat.sub_self, List.drop_zero, List.nil_append]
  rw [e4 _ _ _ _ hl hli hb]
theorem cellsOf_set {k : Nat} {xs : List Value} (hk : ∀ x ∈ xs, (cv x).size = k) {i : Nat} (hi : i < xs.length) {v : Value} (hv : (cv v).size = k) : cellsOf (xs.set i v) = putL (cellsOf xs) (cv v).toList (i * k) := by
  unfold cellsOf
  rw [List.map_set, flat_set (k := k) _ (fun l hl => by obtain ⟨x, hx, rfl⟩ := List.mem_map.1 hl; simpa using hk x hx) i (by simpa using hi) _ (by simpa using hv)]

section yl
variable {P : Program} {G : World → Prop} {n : Nat} {l : List (Nat × Value)} {d : List Deferred} {o : Oper} {v : Value}
theorem yl_max {x y : Operand} {ts : Array TypeId} {i j : Int} {k k' : IntKind} (ho : o.op = Op.call { callee := Callee.builtin Builtin.max, args := #[x, y], argTypes := ts }) (hx : ev l x = some (.int k i)) (hy : ev l y = some (.int k' j)) : Yl P G n l d o (.int k (max i j)) := ⟨(fun c => by rw [ho]; exact (fun h => by cases h)), (fun a w ha hw => by
  have e : (if j > i then j else i) = max i j := by omega
  simp [execOp, ho, resolve, invoke, builtin, ha.eval hx, ha.eval hy, run_max_int2, e, Sem.run_bind, Result.andThen])⟩
theorem yl_min {x y : Operand} {ts : Array TypeId} {i j : Int} {k k' : IntKind} (ho : o.op = Op.call { callee := Callee.builtin Builtin.min, args := #[x, y], argTypes := ts }) (hx : ev l x = some (.int k i)) (hy : ev l y = some (.int k' j)) : Yl P G n l d o (.int k (min i j)) := ⟨(fun c => by rw [ho]; exact (fun h => by cases h)), (fun a w ha hw => by
  have e : (if j < i then j else i) = min i j := by omega
  simp [execOp, ho, resolve, invoke, builtin, ha.eval hx, ha.eval hy, run_min_int2, e, Sem.run_bind, Result.andThen])⟩
theorem run_rem {T : TypeId} {k : IntKind} {i j : Int} (h0 : 0 ≤ i) (hj : 0 < j) (w : World) : (binOp .rem T (.int k i) (.int k j)).run P w = .ok (.int k (i % j)) w := by
  have : (j == 0) = false := by simp; omega
  have e : i.tmod j = i % j := Int.tmod_eq_emod_of_nonneg h0
  simp [binOp, Op.intDiv, this, e, show ¬ j = 0 by omega]
theorem yl_rem {T T2 : TypeId} {x y : Operand} {k : IntKind} {i j : Int} (ho : o.op = .binOp .rem T x y T2) (hx : ev l x = some (.int k i)) (hy : ev l y = some (.int k j)) (h0 : 0 ≤ i) (hj : 0 < j) : Yl P G n l d o (.int k (i % j)) := yl_int ho hx hy (run_rem h0 hj)
/-- A cell of an element of a slice. -/
def elemF (v : Value) (k i j : Nat) : Value := match v with | .slice (some a) _ _ => .pointer (some ⟨a.block, a.off + i * k + j, none⟩) | _ => .pointer none
/-- Where a field lies in its struct. -/
def fldO (P : Program) (T f : Nat) : Option Nat := match P.underlying T with
  | some (.struct fs) => (match fs[f]? with
    | some fd => (match P.info? fd.type with
      | some i => if i.size = 0 then none else some fd.offset
      | none => none)
    | none => none)
  | _ => none
theorem run_fld {T f q : Nat} (h : fldO P T f = some q) (b off : Nat) (w : World) : (Instr.fieldAt T (.pointer (some ⟨b, off, none⟩)) f).run P w = .ok (.pointer (some ⟨b, off + q, none⟩)) w := by
  unfold fldO at h
  split at h
  · rename_i fs hu
    split at h
    · rename_i fd hf
      split at h
      · rename_i i hi
        split at h
        · cases h
        · rename_i hs
          obtain rfl := Option.some.inj h
          simp [Instr.fieldAt, Instr.sureAddr, run_underlying hu, hf, fieldPlace, sizeOf, typeInfo, hi, hs, Addr.add_mid, Sem.run_bind, Result.andThen]
      · cases h
    · cases h
  · cases h
theorem yl_fieldB {T : TypeId} {x : Operand} {f q B : Nat} (ho : o.op = .fieldAddr T x f) (hx : ev l x = some (ptr B)) (hf : fldO P T f = some q) : Yl P G n l d o (.pointer (some ⟨B, q, none⟩)) := ⟨(fun c => by rw [ho]; exact (fun h => by cases h)), (fun a w ha hw => by
    have e : a.eval x = .pointer (some ⟨B, 0, none⟩) := ha.eval hx
    have := run_fld hf B 0 w
    rw [Nat.zero_add] at this
    simp only [execOp, ho, e, Sem.run_bind, this, Result.andThen]; rfl)⟩
theorem yl_fieldE {T : TypeId} {x : Operand} {f k i j : Nat} {s : Value} {xs : List Value} (ho : o.op = .fieldAddr T x f) (hx : ev l x = some (elemP s k i)) (hr : Rdg G k s xs) (hi : i < xs.length) (hf : fldO P T f = some j) : Yl P G n l d o (elemF s k i j) := ⟨(fun c => by rw [ho]; exact (fun h => by cases h)), (fun a w ha hw => by
    obtain ⟨A, c, rfl, hc, hA, hel⟩ := hr w hw
    obtain ⟨b, o', rfl, _⟩ := hel i xs[i] (by simp [hi])
    have e := ha.eval hx
    simp only [elemP] at e
    simp only [execOp, ho, e, Sem.run_bind, run_fld hf, Result.andThen]; rfl)⟩
/-- A cell of an element is loaded. -/
theorem yl_load_elemF {T : TypeId} {x : Operand} {k i j : Nat} {s y : Value} {xs : List Value} (ho : o.op = .load T x) (hx : ev l x = some (elemF s k i j)) (hr : Rdg G k s xs) (hy : xs[i]? = some y) (hu : cellAt y j = some v) (h1 : cv v = #[v]) (hv : VOf P T v) : Yl P G n l d o v := ⟨(fun c => by rw [ho]; exact (fun h => by cases h)), (fun a w ha hw => by
    have hu := cellAt_cv hu
    obtain ⟨A, c, rfl, hc, hA, hel⟩ := hr w hw
    obtain ⟨b, o', rfl, hra⟩ := hel i y hy
    have e := ha.eval hx
    simp only [elemF] at e
    have hr1 : w.rangeAt b (o' + i * k + j) (cv v).toList := by
      intro q u' hq
      rw [h1] at hq
      match q, hq with
      | 0, hq => simp at hq; subst hq; have := hra j v (by simpa using hu); simpa using this
    simp [execOp, ho, e, Instr.loadAt, Instr.sureAddr, Sem.run_bind, run_loadVar_of w b (o' + i * k + j) T v hv hr1, Result.andThen])⟩
end yl

theorem run_storeVar_at {P : Program} (w : World) (g off : Nat) (T t : TypeId) (v : Value) (cur : Array Value) (hv : VOf P T v) (hg : w.heap[g]? = some (.cells cur t (0, 0))) (hf : off + (cv v).size ≤ cur.size) :
    (storeVar T ⟨g, off, none⟩ v).run P w = .ok () (w.setRow g (putL cur.toList (cv v).toList off).toArray) := by
  have := run_storeCells_at P g off t (cv v).toList 0 cur w hg (by simpa using hf) (fun u hu => (Array.all_eq_true_iff_forall_mem.1 hv.one) u (by simpa using hu))
  cases hq : P.info? T with
  | none => have := hv.size; simp [hq] at this
  | some i =>
    have hsz : (cv v).size = i.size := by have := hv.size; simp [hq] at this; omega
    simp only [storeVar, sizeOf, typeInfo, hq, cv_eq, hsz, Sem.run_bind] 
    simp only [Nat.add_zero] at this
    simp [putL, cv_eq, hsz, hq, this, Sem.run_bind, Result.andThen]
theorem RowC.put {P : Program} {e k : Nat} {g n c : Nat} {xs ys : List Value} {O : Nat → Prop} {w : World} (h : (RowC e k (.slice (some ⟨g, 0, none⟩) n c) xs).p O w) {B : List Value} {off : Nat} (hB : off + B.length ≤ n * k) (hys : cellsOf ys = putL (cellsOf xs) B off) (hyk : ∀ y ∈ ys, (cv y).size = k) (hl : ys.length = xs.length) :
    ∃ cur, w.heap[g]? = some (.cells cur e (0, 0)) ∧ off + B.length ≤ cur.size ∧ (RowC e k (.slice (some ⟨g, 0, none⟩) n c) ys).p O (w.setRow g (putL cur.toList B off).toArray) := by
  obtain ⟨⟨h1, h2⟩, h3, h4, h5⟩ := h
  rcases h2 with ⟨h2, _⟩ | ⟨g', cap, cur, e1, h6, h7, h8, h9, h10, h11⟩
  · cases h2
  obtain ⟨e2, e3, e4⟩ := Value.slice.inj e1
  obtain ⟨rfl, _, _⟩ := Addr.mk.inj (Option.some.inj e2)
  subst e4
  rw [e3] at hB
  have hnk : xs.length * k ≤ cur.size := by rw [h10]; exact Nat.mul_le_mul_right _ (by omega)
  refine ⟨cur, h7, by omega, ⟨⟨?_, .inr ⟨g, c, (putL cur.toList B off).toArray, by rw [hl, e3], h6, ?_, by omega, h9, ?_, ?_⟩⟩, (fun h => by cases h), hyk, h5⟩⟩
  · rw [cellsOf_len hyk]
  · exact setRow_heap w g _ _ _ _ h7
  · simp [putL_len (show off + B.length ≤ cur.toList.length by simp; omega), h10]
  · rw [hl, List.toList_toArray, putL_take (by omega) (by simp; omega), h11, hys]

section ops
variable {F : Fence} {m : Nat} {P : Program} {Q : Exit → Act → World → Prop} {K : Act → World → Prop} {n : Nat} {l : List (Nat × Value)} {d : List Deferred} {W0 : World} {X : Nat → Prop} {R C : List Ch} {o : Oper} {t : Nat} {v : Value}
theorem RowC.len0 {e k : Nat} {s : Value} {xs : List Value} {O : Nat → Prop} {w : World} (h : (RowC e k s xs).p O w) (hx : 0 < xs.length) : ∃ g c, s = .slice (some ⟨g, 0, none⟩) xs.length c ∧ O g := by
  rcases h.1.2 with ⟨rfl, h2⟩ | ⟨g, cap, cur, rfl, _⟩
  · omega
  · exact ⟨g, cap, rfl, (h.2.2.2 g).2 rfl⟩
/-- A store into an element of an owned row. -/
theorem on_storeE (hF : IsWide F) {T : TypeId} {x y : Operand} {i e k : Nat} {s : Value} {xs : List Value} {C' : List Ch} (ho : o.op = .store T x y) (hd : o.dst = none) (hx : ev l x = some (elemP s k i)) (hy : ev l y = some v) (hm : Turn C (RowC e k s xs) (RowC e k s (xs.set i v)) C') (hi : i < xs.length) (hv : VOf P T v) (hs : (cv v).size = k)
    (h : Nx K n l d W0 X R C') : Nx (OpN F m P o K Q) n l d W0 X R C :=
  on_unit hF (fun c => by rw [ho]; exact fun h => by cases h) hd (R' := R) (C' := C') (fun a w ha hw => by
    obtain ⟨O1, hrow⟩ : ∃ O, (RowC e k s xs).p O w := by
      obtain ⟨D, h1, h2⟩ := hm
      exact (hw.perm h1).hasC (c := RowC e k s xs) (by simp)
    obtain ⟨g, c, rfl, hO⟩ := RowC.len0 hrow (by omega)
    have hk2 : i * k + k ≤ xs.length * k := by rw [← Nat.succ_mul]; exact Nat.mul_le_mul_right _ (by omega)
    have put := fun {O : Nat → Prop} {w : World} (h : (RowC e k (.slice (some ⟨g, 0, none⟩) xs.length c) xs).p O w) => RowC.put (P := P) h (ys := xs.set i v) (B := (cv v).toList) (off := i * k) (by simp [hs]; exact hk2) (cellsOf_set h.2.2.1 hi hs) (fun y hy => by
      rcases List.mem_or_eq_of_mem_set hy with hy | rfl
      · exact h.2.2.1 y hy
      · exact hs) (by simp)
    obtain ⟨cur, hg, hfit, hnew⟩ := put hrow
    have e1 : a.eval x = .pointer (some ⟨g, i * k, none⟩) := by have := ha.eval hx; simpa [elemP] using this
    refine ⟨w.setRow g (putL cur.toList (cv v).toList (i * k)).toArray, ?_, hw.turn hm (fun O ho => ?_)⟩
    · simp [execOp, ho, e1, ha.eval hy, Instr.storeAt, Instr.sureAddr, Sem.run_bind, run_storeVar_at w g (i * k) T e v cur hv hg (by simpa using hfit), Result.andThen]
    · obtain ⟨cur2, hg2, _, hn2⟩ := put ho
      rw [hg] at hg2
      obtain ⟨rfl, _⟩ := Obj.cells.inj (Option.some.inj hg2)
      exact ⟨O, Touch.setRow _ _ _ ((ho.2.2.2 g).2 rfl), hn2, fun k hk => .inl hk⟩) h
/-- A store into a cell of an element of an owned row. -/
theorem on_storeEF (hF : IsWide F) {T : TypeId} {x y : Operand} {i j e k : Nat} {s : Value} {xs : List Value} {cs : Array Value} {C' : List Ch} (ho : o.op = .store T x y) (hd : o.dst = none) (hx : ev l x = some (elemF s k i j)) (hy : ev l y = some v) (hm : Turn C (RowC e k s xs) (RowC e k s (xs.set i (.agg (cs.setIfInBounds j v)))) C') (hi : xs[i]? = some (.agg cs)) (hj : j < cs.size) (hv : VOf P T v) (h1 : cv v = #[v])
    (h : Nx K n l d W0 X R C') : Nx (OpN F m P o K Q) n l d W0 X R C :=
  on_unit hF (fun c => by rw [ho]; exact fun h => by cases h) hd (R' := R) (C' := C') (fun a w ha hw => by
    obtain ⟨O1, hrow⟩ : ∃ O, (RowC e k s xs).p O w := by
      obtain ⟨D, h1, h2⟩ := hm
      exact (hw.perm h1).hasC (c := RowC e k s xs) (by simp)
    obtain ⟨hil, hie⟩ := List.getElem?_eq_some_iff.1 hi
    obtain ⟨g, c, rfl, hO⟩ := RowC.len0 hrow (by omega)
    have hck : cs.size = k := by have := hrow.2.2.1 (.agg cs) (by rw [← hie]; exact List.getElem_mem hil); simpa [cv, Value.cells] using this
    have hk2 : i * k + k ≤ xs.length * k := by rw [← Nat.succ_mul]; exact Nat.mul_le_mul_right _ (by omega)
    have hcells : cellsOf (xs.set i (.agg (cs.setIfInBounds j v))) = putL (cellsOf xs) [v] (i * k + j) := by
      rw [cellsOf_set hrow.2.2.1 hil (by simp [cv, Value.cells, hck])]
      have hcl : (cellsOf xs).length = xs.length * k := cellsOf_len hrow.2.2.1
      have hcv : (cv (.agg (cs.setIfInBounds j v))).toList = cs.toList.set j v := by simp [cv, Value.cells]
      rw [hcv]
      apply List.ext_getElem?
      intro q
      rw [putL_at (by simp [hck, hcl]; omega), putL_at (by simp [hcl]; omega)]
      simp only [List.length_set, Array.length_toList, hck, List.length_cons, List.length_nil]
      by_cases q1 : q < i * k
      · simp [q1, show q < i * k + j by omega]
      · rw [if_neg q1]
        by_cases q2 : q < i * k + k
        · rw [if_pos q2, List.getElem?_set]
          by_cases q3 : q = i * k + j
          · subst q3; simp [hj]
          · have hold : (cs.toList)[q - i * k]? = (cellsOf xs)[q]? := by
              have hx2 : cs.toList = (cv xs[i]).toList := by rw [hie]; simp [cv, Value.cells]
              have hlt : q - i * k < cs.toList.length := by simp; omega
              have := flat_at (k := k) (xs.map fun x => (cv x).toList) (fun l hl => by obtain ⟨x, hx, rfl⟩ := List.mem_map.1 hl; simpa using hrow.2.2.1 x hx) i (q - i * k) cs.toList (cs.toList[q - i * k]) (by simp [hil, hx2]) (by simp [hlt])
              rw [show i * k + (q - i * k) = q by omega] at this
              unfold cellsOf; rw [this]; simp [hlt]
            rw [if_neg (by omega), hold]
            by_cases q4 : q < i * k + j
            · simp [q4]
            · simp [q4, show ¬ q < i * k + j + 1 by omega]
        · simp [q2, show ¬ q < i * k + j by omega, show ¬ q < i * k + j + 1 by omega]
    have put := fun {O : Nat → Prop} {w : World} (h : (RowC e k (.slice (some ⟨g, 0, none⟩) xs.length c) xs).p O w) => RowC.put (P := P) h (ys := xs.set i (.agg (cs.setIfInBounds j v))) (B := [v]) (off := i * k + j) (by simp; omega) hcells (fun y hy => by
      rcases List.mem_or_eq_of_mem_set hy with hy | rfl
      · exact h.2.2.1 y hy
      · simp [cv, Value.cells, hck]) (by simp)
    obtain ⟨cur, hg, hfit, hnew⟩ := put hrow
    have e1 : a.eval x = .pointer (some ⟨g, i * k + j, none⟩) := by have := ha.eval hx; simpa [elemF] using this
    have hcv1 : (cv v).toList = [v] := by rw [h1]
    refine ⟨w.setRow g (putL cur.toList [v] (i * k + j)).toArray, ?_, hw.turn hm (fun O ho => ?_)⟩
    · have hst := run_storeVar_at w g (i * k + j) T e v cur hv hg (by rw [h1]; simpa using hfit)
      rw [hcv1] at hst
      simp [execOp, ho, e1, ha.eval hy, Instr.storeAt, Instr.sureAddr, Sem.run_bind, hst, Result.andThen]
    · obtain ⟨cur2, hg2, _, hn2⟩ := put ho
      rw [hg] at hg2
      obtain ⟨rfl, _⟩ := Obj.cells.inj (Option.some.inj hg2)
      exact ⟨O, Touch.setRow _ _ _ ((ho.2.2.2 g).2 rfl), hn2, fun k hk => .inl hk⟩) h
/-- A store into a cell of a variable. -/
theorem on_storeF (hF : IsWide F) {T T' : TypeId} {x y : Operand} {B j : Nat} {cs : Array Value} {C' : List Ch} (ho : o.op = .store T x y) (hd : o.dst = none) (hx : ev l x = some (.pointer (some ⟨B, j, none⟩))) (hy : ev l y = some v) (hm : Turn C (BoxC B T' (.agg cs)) (BoxC B T' (.agg (cs.setIfInBounds j v))) C') (hj : j < cs.size) (hv : VOf P T v) (h1 : cv v = #[v])
    (h : Nx K n l d W0 X R C') : Nx (OpN F m P o K Q) n l d W0 X R C :=
  on_unit hF (fun c => by rw [ho]; exact fun h => by cases h) hd (R' := R) (C' := C') (fun a w ha hw => by
    have hb : BoxV w B T' (.agg cs) := by
      obtain ⟨D, h1, h2⟩ := hm
      obtain ⟨_, h3⟩ := (hw.perm h1).hasC (c := BoxC B T' (.agg cs)) (by simp)
      exact h3.1
    have e : a.eval x = .pointer (some ⟨B, j, none⟩) := ha.eval hx
    have hput : (putL cs.toList [v] j).toArray = cs.setIfInBounds j v := by
      apply Array.ext_getElem?
      intro q
      rw [List.getElem?_toArray, putL_at (by simp; omega), Array.getElem?_setIfInBounds]
      by_cases q1 : q = j
      · subst q1; simp [hj]
      · by_cases q2 : q < j
        · simp [q2, show ¬ j = q by omega]
        · simp [q2, show ¬ q < j + 1 by omega, show ¬ j = q by omega]
    have hst := run_storeVar_at w B j T T' v cs hv hb (by rw [h1]; simp; omega)
    rw [show (cv v).toList = [v] by rw [h1], hput] at hst
    refine ⟨w.setRow B (cs.setIfInBounds j v), ?_, hw.turn hm (fun O ho => ⟨O, Touch.setRow _ _ _ ((ho.2 B).2 rfl), ⟨setRow_heap _ _ _ _ _ _ ho.1, ho.2⟩, fun k hk => .inl hk⟩)⟩
    simp [execOp, ho, e, ha.eval hy, Instr.storeAt, Instr.sureAddr, Sem.run_bind, hst, Result.andThen]) h

/-! ### maps with whole numbers for keys -/
theorem MapV.same {k : TypeId} {w w' : World} {b n : Nat} {f : Int → Option Value} (h : MapV P k w b n f) (hk : w'.heap[b]? = w.heap[b]?) : MapV P k w' b n f := by
  obtain ⟨D, ho, hD, hf⟩ := h
  obtain ⟨es, clock, hb, F, hs, e⟩ := ho
  exact ⟨D, ⟨es, clock, hk.trans hb, F, hs, e⟩, hD, hf⟩
def MapC (P : Program) (k : TypeId) (b n : Nat) (f : Int → Option Value) : Ch where
  p O w := MapV P k w b n f ∧ ∀ j, O j ↔ j = b
  st h _ hk := ⟨h.1.same (hk b ((h.2 b).2 rfl)), h.2⟩
  lt h j hj := by rw [(h.2 j).1 hj]; exact h.1.lt
def mapT (P : Program) (t k e : TypeId) : Bool := match P.underlying t, P.underlying k with | some (.map k' e'), some (.int .i64) => k' == k && e' == e | _, _ => false
theorem mapT_spec {t k e : TypeId} (h : mapT P t k e = true) : P.underlying t = some (.map k e) ∧ P.underlying k = some (.int .i64) := by
  unfold mapT at h
  split at h
  · rename_i k' e' h1 h2
    simp at h
    obtain ⟨rfl, rfl⟩ := h
    exact ⟨h1, h2⟩
  · cases h
theorem on_makeMap (hF : IsWide F) {T : TypeId} (k : TypeId) (ho : o.op = .makeMap T none) (hd : o.dst = some t) (ht : Nat.blt t n = true) (h : ∀ b, Nx K n ((t, .map (some b)) :: l) d W0 X R (MapC P k b 0 (fun _ => none) :: C)) : Nx (OpN F m P o K Q) n l d W0 X R C :=
  on_world hF (fun c => by rw [ho]; exact fun h => by cases h) hd ht (fun b => .map (some b)) (fun _ => R) (fun b => MapC P k b 0 (fun _ => none) :: C) (fun a w ha hw => by
    refine ⟨w.heap.size, w.alloc (.map #[] 0), ?_, hw.new ((Below.refl _ _).alloc (Nat.le_refl _) _) ⟨fun j => j = w.heap.size, ⟨MapV.made w P k, fun _ => Iff.rfl⟩, fun k hk => by omega⟩⟩
    simp [execOp, ho, run_makeMap, Sem.run_bind, Result.andThen]) h
theorem yl_lookup {G : World → Prop} {T k e : TypeId} {mm x : Operand} {b q : Nat} {f : Int → Option Value} {z : Int} {zv : Value} (ho : o.op = .lookup T mm x false) (hm : ev l mm = some (.map (some b))) (hx : ev l x = some (.int .i64 z)) (hT : mapT P T k e = true) (hz : ∀ w, (zeroValue e).run P w = .ok zv w) (hw : (Lit.int .i64 z).wf = true) (hM : Has G (MapC P k b q f)) : Yl P G n l d o ((f z).getD zv) := ⟨(fun c => by rw [ho]; exact (fun h => by cases h)), (fun a w ha hG => by
    obtain ⟨ht, hk⟩ := mapT_spec hT
    obtain ⟨_, ⟨D, hown, hD, hf⟩, _⟩ := hM w hG
    obtain ⟨v, ps, hrun, hv⟩ := hown.lookup (Maps.int_keyed hk) ht (hz w) (zd := .held zv) (zp := []) rfl (Maps.keyOf_int_mk hk hw)
    have h1 := (hf z).2 zv
    rw [h1] at hv
    have e1 : v = (f z).getD zv := by
      simp only [heldR, Option.some.injEq, Prod.mk.injEq, DataW.held.injEq] at hv
      exact hv.1
    subst e1
    simp [execOp, ho, ha.eval hm, ha.eval hx, hrun, Result.andThen])⟩
theorem on_mapUpdate (hF : IsWide F) {T k e : TypeId} {mm x y : Operand} {b q : Nat} {f : Int → Option Value} {z : Int} {C' : List Ch} (ho : o.op = .mapUpdate T mm x y) (hd : o.dst = none) (hm : ev l mm = some (.map (some b))) (hx : ev l x = some (.int .i64 z)) (hy : ev l y = some v) (hT : mapT P T k e = true)
    (hM : Turn C (MapC P k b q f) (MapC P k b (q + 1) (updF f z v)) C') (hw : (Lit.int .i64 z).wf = true) (hq : q < maxLen) (h : Nx K n l d W0 X R C') : Nx (OpN F m P o K Q) n l d W0 X R C :=
  on_unit hF (fun c => by rw [ho]; exact fun h => by cases h) hd (R' := R) (C' := C') (fun a w ha hG => by
    obtain ⟨ht, hk⟩ := mapT_spec hT
    have upd : ∀ {O : Nat → Prop}, (MapC P k b q f).p O w → ∃ w', (execOp a.eval o).run P w = .ok .skip w' ∧ Touch (fun j => j = b) w w' ∧ MapV P k w' b (q + 1) (updF f z v) := fun {O} hp => by
      obtain ⟨⟨D, hown, hD, hf⟩, hO⟩ := hp
      obtain ⟨w', hrun, r1, r2⟩ := hown.update (Maps.int_keyed hk) ht hq (key := .int .i64 z) (val := v) (Maps.keyOf_int_mk hk hw) (d := .held v) (ps := []) rfl
      refine ⟨w', by simp [execOp, ho, ha.eval hm, ha.eval hx, ha.eval hy, hrun, Result.andThen], Touch.of_grownBy r2 (fun k e => by injection e with e; exact e.symm), _, r1, ?_, fun y => ?_⟩
      · obtain ⟨es, rfl⟩ := hD; exact ⟨_, rfl⟩
      · by_cases hq : y = z
        · subst hq
          rw [Maps.has_put_same hD (show WideAt.IsKeyLit (Lit.int .i64 _) from trivial)]
          exact ⟨by simp [updF], fun u => by rw [Maps.atKey_put_same hD (show WideAt.IsKeyLit (Lit.int .i64 _) from trivial)]; simp [updF]⟩
        · have hne : (Lit.int .i64 y) ≠ .int .i64 z := fun e => hq (by injection e)
          rw [Maps.has_put_other hne]
          exact ⟨by rw [(hf y).1]; simp [updF, hq], fun u => by rw [Maps.atKey_put_other hne, (hf y).2]; simp [updF, hq]⟩
    obtain ⟨O1, hp⟩ : ∃ O, (MapC P k b q f).p O w := by
      obtain ⟨D, h1, h2⟩ := hM
      exact (hG.perm h1).hasC (c := MapC P k b q f) (by simp)
    obtain ⟨w', hrun, ht', hv'⟩ := upd hp
    exact ⟨w', hrun, hG.turn hM (fun O hO => ⟨O, ht'.mono (fun i _ hi => by subst hi; exact (hO.2 _).2 rfl), ⟨hv', hO.2⟩, fun k hk => .inl hk⟩)⟩) h

/-! ### rows that are made; copy -/
theorem cellsOf_replicate {z : Value} {k : Nat} (hz : (cv z).size = k) (hk : 0 < k) (c : Nat) : (madeCells z.cells (c * k)).toList = cellsOf (List.replicate c z) := by
  have hz' : z.cells.size = k := hz
  apply List.ext_getElem?
  intro j
  by_cases hj : j < c * k
  · have h1 : (madeCells z.cells (c * k)).toList[j]? = some (z.cells[j % k]!) := by simp [madeCells, hj, hz']
    have hr : j % k < k := Nat.mod_lt _ hk
    have hi : j / k < c := Nat.div_lt_of_lt_mul (by rw [Nat.mul_comm]; exact hj)
    have h2 := flat_at (k := k) ((List.replicate c z).map fun x => (cv x).toList) (fun l hl => by obtain ⟨x, hx, rfl⟩ := List.mem_map.1 hl; rw [List.eq_of_mem_replicate hx]; simpa using hz) (j / k) (j % k) (cv z).toList (z.cells[j % k]!) (by simp [hi]) (by
      have : (cv z).toList[j % k]? = some (z.cells[j % k]) := by simp [cv_eq, hz', hr]
      rw [this, getElem!_pos z.cells (j % k) (by omega)])
    rw [h1]
    unfold cellsOf
    rw [← h2]; congr 1
    rw [Nat.mul_comm]; exact Nat.div_add_mod j k
  · rw [List.getElem?_eq_none (by simp [madeCells]; omega), List.getElem?_eq_none (by rw [cellsOf_len (k := k) (fun x hx => by rw [List.eq_of_mem_replicate hx]; exact hz)]; simp; omega)]
theorem on_makeSlice (hF : IsWide F) {T e k by_ : Nat} {x : Operand} {z : Value} {c : Nat} (ho : o.op = .makeSlice T x x) (hd : o.dst = some t) (ht : Nat.blt t n = true) (hx : ev l x = some (.int .i64 (c : Int))) (hT : apT P T e k by_ = true) (hz : ∀ w, (zeroValue e).run P w = .ok z w) (hb : by_ * c ≤ 281474976710656) (hc : c ≤ maxLen)
    (h : ∀ B, Nx K n ((t, .slice (some ⟨B, 0, none⟩) c c) :: l) d W0 X R (RowC e k (.slice (some ⟨B, 0, none⟩) c c) (List.replicate c z) :: C)) : Nx (OpN F m P o K Q) n l d W0 X R C :=
  on_world hF (fun c => by rw [ho]; exact (fun h => by cases h)) hd ht (fun B => .slice (some ⟨B, 0, none⟩) c c) (fun _ => R) (fun B => RowC e k (.slice (some ⟨B, 0, none⟩) c c) (List.replicate c z) :: C) (fun a w ha hw => by
    obtain ⟨i, z', t1, t2, t3, t4, t5, t6, t7⟩ := apT_spec hT
    obtain rfl : z' = z := by have h1 := hz w; have h2 : (zeroValue e).run P w = .ok z' w := by simp [zeroValue, typeInfo, t2, t3]
                              rw [h1] at h2; injection h2 with h2 _; exact h2.symm
    have hzk : (cv z').size = k := t6
    obtain ⟨w', hrun, hown, hgr⟩ := Go.run_make_full (P := P) w 0 T e i z' k t1 t2 t3 t4 .i64 .i64 c (by rw [t5]; exact hb) hc (Nat.zero_le _)
    rw [cellsOf_replicate hzk t7] at hown
    refine ⟨w.heap.size, w', ?_, hw.new ((Touch.of_grownBy (S := fun _ => False) hgr (fun _ h => by cases h)).below (Nat.le_refl _) (fun _ _ h => h)) ⟨fun j => j = w.heap.size, ⟨by rw [List.length_replicate]; exact hown, (fun h => by cases h), fun x hx => by rw [List.eq_of_mem_replicate hx]; exact hzk, fun j => ⟨fun h => by simp [Value.ownBlock, h], fun h => by simp [Value.ownBlock] at h; exact h.symm⟩⟩, fun k hk => by omega⟩⟩
    simp only [execOp, ho, ha.eval hx, Sem.run_bind, hrun, Result.andThen]; rfl) h
end ops
/-- What is known of the state is told anew. -/
theorem nx_gen {K : Act → World → Prop} {n : Nat} {l l' : List (Nat × Value)} {d : List Deferred} {W0 : World} {X : Nat → Prop} {R C C' : List Ch} (φ : List Ch → Prop) (hφ : φ R) (hl : ∀ j v, lk j l' = some v → lk j l = some v) (hC : Holds C C') (h : ∀ R', φ R' → Nx K n l' d W0 X R' C') : Nx K n l d W0 X R C :=
  fun a w ha hw => h R hφ a w (ha.sub hl) (hw.keep hC)
/-- Values of one cell. -/
def oneV : Value → Bool
  | .int _ _ => true
  | .bool _ => true
  | .string _ => true
  | .slice _ _ _ => true
  | .func _ _ _ => true
  | .nilFunc => true
  | .pointer _ => true
  | .map _ => true
  | _ => false
theorem Cel.one1 {y : Value} {ys : List Value} (h : oneV y = true) (hs : Cel 1 ys) : Cel 1 (y :: ys) := by
  unfold oneV at h
  split at h <;> first | (cases h; done) | exact Cel.cons rfl (by simp [cv, Value.cells, Value.oneCell']) hs
theorem vof_oneV {P : Program} {T : TypeId} {y : Value} (hT : oneT P T = true) (h : oneV y = true) : VOf P T y := by
  unfold oneV at h
  split at h <;> first | (cases h; done) | exact vof1 hT rfl rfl
theorem Cel.consl {k : Nat} {y : Value} {ys : List Value} (h1 : (cv y).size = k) (h2 : (cv y).toList.all (·.oneCell') = true) (h : Cel k ys) : Cel k (y :: ys) := Cel.cons h1 (by rw [← Array.all_toList]; exact h2) h
theorem a_cel {k : Nat} {ys : List Value} (h : Cel k ys := by (repeat (first | with_reducible assumption | exact Cel.nil | refine Cel.one1 rfl ?_ | refine Cel.consl rfl rfl ?_)); fail_if_success (focus skip)) : Cel k ys := h
section auto
variable {P : Program} {G : World → Prop} {n : Nat} {l : List (Nat × Value)} {d : List Deferred} {o : Oper} {v v1 v2 : Value} {p : Prop}
theorem a_yl (h : Yl P G n l d o v := by (first | exact yl_move rfl rfl | exact yl_assign rfl rfl | exact yl_load rfl rfl a_has a_vof | exact yl_not_t rfl rfl | exact yl_not_f rfl rfl | exact yl_pick_t rfl rfl rfl | exact yl_pick_f rfl rfl rfl | exact yl_extract rfl rfl rfl | exact yl_func rfl rfl | exact yl_nilCheck rfl rfl | exact yl_add rfl rfl rfl (by omega) | exact yl_sub rfl rfl rfl (by omega) | exact yl_mul rfl rfl rfl (by omega) | exact yl_neg rfl rfl (by omega) | exact yl_and rfl rfl rfl | exact yl_or rfl rfl rfl | exact yl_xor rfl rfl rfl | exact yl_len_str rfl rfl (by kernel_rfl) | exact yl_len_s rfl rfl (by kernel_rfl) | exact yl_cmp rfl rfl rfl rfl (by kernel_rfl) | exact yl_max rfl rfl rfl | exact yl_min rfl rfl rfl | exact yl_rem rfl rfl rfl (by omega) (by omega) | exact yl_load_cell rfl rfl a_has rfl rfl a_vof | exact yl_index rfl rfl rfl a_sl (by kernel_rfl) (by (first | omega | (simp only [List.length_append, List.length_cons, List.length_nil, List.length_map] at *; omega))) | exact yl_index_z rfl rfl rfl a_sl (by kernel_rfl) (by (first | omega | (simp only [List.length_append, List.length_cons, List.length_nil, List.length_map] at *; omega))) (by (first | omega | (simp only [List.length_append, List.length_cons, List.length_nil, List.length_map] at *; omega))) | exact yl_load_elem rfl rfl a_sl (by first | with_reducible assumption | rfl) a_vof | exact yl_len rfl rfl a_sl (by kernel_rfl) | exact yl_load_elemF rfl rfl a_sl (by first | with_reducible assumption | rfl) (by rfl) rfl a_vof | exact yl_indexAddr rfl rfl rfl (fun w => by (first | rfl | (simp only [ptr]; go_simp; all_goals rfl) | (go_simp; all_goals rfl))))) : Yl P G n l d o v := h
theorem a_yc (h : Yc P G n l d o p v1 v2 := by (first | exact yc_lss rfl rfl rfl | exact yc_eql rfl rfl rfl | exact yc_neq rfl rfl rfl | exact yc_leq rfl rfl rfl | exact yc_gtr rfl rfl rfl | exact yc_geq rfl rfl rfl | exact yc_eql_str rfl rfl rfl | exact yc_neq_str rfl rfl rfl)) : Yc P G n l d o p v1 v2 := h
end auto
end Go.Proofs.Ytinofjenoapeaaa
