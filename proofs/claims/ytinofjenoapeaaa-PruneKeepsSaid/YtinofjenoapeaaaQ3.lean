/- A law of this claim's own, over any program: a region that draws its order of evaluation, whose first operations each yield one value in every world of a class and leave a world of the class, and whose last ones follow one behind the other: one walk in the order of the text serves every order. No condition. -/
import Derived.Test.YtinofjenoapeaaaQ1
import Derived.StillTail
import Derived.Sort.QuietThIn
namespace Go.Proofs.Ytinofjenoapeaaa
open Go.RowKit Go.Shelf
set_option linter.unusedSimpArgs false
set_option linter.unusedVariables false

section
variable {F : Fence} {n : Nat} {P : Program} {ops : Array Oper} {md : Region.Mode} {C : World → Prop}

def hUpon (P : Program) (C : World → Prop) (v : Value) : Result Next → Prop
  | .ok (.value u) w' => C w' ∧ u = v
  | .ok .skip w' => C w' ∧ v = undef
  | .ok (.enter f args) w' => Calls P f args w' (fun e w'' => e = .returned v ∧ C w'')
  | _ => False

/-- Operation o, carried out in w, yields v and leaves a world of the class. -/
def hAt (P : Program) (o : Oper) (a : Act) (C : World → Prop) (w : World) (v : Value) : Prop := (∀ c, o.op ≠ .defer c) ∧ hUpon P C v ((execOp a.eval o).run P w)

def hOper (P : Program) (o : Oper) (a : Act) (C : World → Prop) (next : Act → Prop) : Prop := ∃ v, (∀ w, C w → hAt P o a C w v) ∧ next (a.put o.dst v)

/-- The walk in the order of the text. -/
def hList (P : Program) (ops : Array Oper) (C : World → Prop) (Q : Act → Prop) : List Oper → Act → Prop
  | [], a => Q a
  | o :: rest, a => if Region.wanted o (yielded ops a.tmps) then hOper P o a C (hList P ops C Q rest) else hList P ops C Q rest (a.put o.dst undef)

def hOp (P : Program) (ops : Array Oper) (C : World → Prop) (i : Nat) (K : Act → Prop) (a : Act) : Prop :=
  match ops[i]? with
  | none => K a
  | some o => if Region.wanted o (yielded ops a.tmps) then hOper P o a C K else K (a.put o.dst undef)

theorem hOper_mono {o : Oper} {a : Act} {K K' : Act → Prop} (h : ∀ a, K a → K' a) (hh : hOper P o a C K) : hOper P o a C K' :=
  let ⟨v, h1, h2⟩ := hh
  ⟨v, h1, h _ h2⟩

theorem hOp_mono {i : Nat} {a : Act} {K K' : Act → Prop} (h : ∀ a, K a → K' a) (hh : hOp P ops C i K a) : hOp P ops C i K' a := by
  unfold hOp at *
  split
  · exact h _ (by simpa [*] using hh)
  · rename_i o ho
    simp only [ho] at hh
    split
    · rename_i hw; simp only [hw, if_true] at hh; exact hOper_mono h hh
    · rename_i hw; simp only [hw] at hh; exact h _ hh

theorem wpIn_of_h (hF : IsWide F) {o : Oper} {a : Act} {K : Act → Prop} {K' : Act → World → Prop} {Q' : Exit → Act → World → Prop} {w : World} (hw : C w) (h : ∀ a w', C w' → K a → K' a w')
    (hh : hOper P o a C K) : o.wpIn F n P a w K' Q' := by
  obtain ⟨v, h1, h2⟩ := hh
  obtain ⟨hnd, h3⟩ := h1 w hw
  refine ⟨fun _ _ => hF.fn _, ?_⟩
  rw [Oper.semAt_eq _ _ _ hnd]
  generalize (execOp a.eval o).run P w = r at *
  cases r with
  | ok x w' =>
    cases x <;> simp only [hUpon] at h3 <;> simp only [Oper.uponIn]
    case value u =>
      obtain ⟨e1, rfl⟩ := h3
      exact h _ _ e1 h2
    case skip =>
      obtain ⟨e1, rfl⟩ := h3
      exact h _ _ e1 h2
    case enter f args =>
      refine ⟨fun hd => absurd hd (by rw [hF.depth]; simp), ?_⟩
      exact hF.callsIn (h3.mono fun e w'' ⟨he, hw''⟩ => by subst he; exact h _ _ hw'' h2)
  | halt x w' => simp only [hUpon] at h3

theorem wpOpIn_of_hOp (hF : IsWide F) {i : Nat} {a : Act} {K : Act → Prop} {K' : Act → World → Prop} {Q' : Exit → Act → World → Prop} {w : World} (hC : C w) (h : ∀ a w', C w' → K a → K' a w')
    (hh : hOp P ops C i K a) : wpOpIn F n P ops Q' i K' a w := by
  unfold hOp at hh
  unfold wpOpIn
  split
  · rename_i ho; simp only [ho] at hh; exact h _ _ hC hh
  · rename_i o ho
    simp only [ho] at hh
    split
    · rename_i hw; simp only [hw, if_true] at hh; exact wpIn_of_h hF hC h hh
    · rename_i hw; simp only [hw] at hh; exact ⟨fun _ _ => hF.fn _, h _ _ hC hh⟩

/-- In state a, in every world of the class, operation o leaves v in its temporary, and a world of the class. -/
def HYields (P : Program) (ops : Array Oper) (C : World → Prop) (o : Oper) (v : Value) (a : Act) : Prop :=
  (Region.wanted o (yielded ops a.tmps) = true ∧ ∀ w, C w → hAt P o a C w v) ∨ (Region.wanted o (yielded ops a.tmps) = false ∧ v = undef)

theorem HYields.hOp {i : Nat} {o : Oper} {v : Value} {a : Act} (hi : ops[i]? = some o) (hy : HYields P ops C o v a) {K : Act → Prop} (h : K (a.put o.dst v)) : hOp P ops C i K a := by
  unfold Proofs.Ytinofjenoapeaaa.hOp
  simp only [hi]
  rcases hy with ⟨hw, hv⟩ | ⟨hw, rfl⟩
  · simp only [hw, if_true]; exact ⟨v, hv, h⟩
  · simp only [hw, Bool.false_eq_true, if_false]; exact h

theorem HYields.of_same {o : Oper} {v : Value} {a a' : Act} (hy : HYields P ops C o v a) (he : execOp a'.eval o = execOp a.eval o)
    (hw : Region.wanted o (yielded ops a'.tmps) = Region.wanted o (yielded ops a.tmps)) : HYields P ops C o v a' := by
  unfold HYields hAt at *
  rw [he, hw]
  exact hy

theorem hYields_of_hOp {i : Nat} {o : Oper} {a : Act} {K : Act → Prop} (hi : ops[i]? = some o) (h : hOp P ops C i K a) : ∃ v, HYields P ops C o v a ∧ K (a.put o.dst v) := by
  unfold hOp at h
  simp only [hi] at h
  by_cases hw : Region.wanted o (yielded ops a.tmps) = true
  · simp only [hw, if_true] at h
    obtain ⟨v, h1, h2⟩ := h
    exact ⟨v, .inl ⟨hw, h1⟩, h2⟩
  · simp only [hw] at h
    exact ⟨undef, .inr ⟨by simpa using hw, rfl⟩, h⟩

theorem hOp_put {j : Nat} {oi oj : Oper} {v : Value} (hj : ops[j]? = some oj) (hap : oi.apart ops oj = true)
    (hsi : ∀ cs b, oi.op ≠ .select cs b) (hsj : ∀ cs b, oj.op ≠ .select cs b) {K : Act → Prop} {a : Act}
    (hy : HYields P ops C oi v a) (h : hOp P ops C j K (a.put oi.dst v)) :
    hOp P ops C j (fun a' => HYields P ops C oi v a' ∧ K (a'.put oi.dst v)) a := by
  obtain ⟨h1, h2, h3⟩ := Oper.apart_spec hap
  have keep : ∀ (a : Act), HYields P ops C oi v a → ∀ u, HYields P ops C oi v (a.put oj.dst u) := fun a hy u =>
    hy.of_same (execOp_put oi hsi a oj.dst u h3) (wanted_put oi a oj.dst u h3)
  unfold hOp at *
  simp only [hj] at *
  rw [wanted_put oj a oi.dst v h1] at h
  split
  · rename_i hw
    simp only [hw, if_true] at h
    obtain ⟨u, hu, hn⟩ := h
    refine ⟨u, fun w hw' => ?_, keep a hy u, by rw [← Act.put_comm a v u h2]; exact hn⟩
    have := hu w hw'
    unfold hAt at *
    rwa [execOp_put oj hsj a oi.dst v h1] at this
  · rename_i hw
    simp only [hw] at h
    exact ⟨keep a hy _, by rw [← Act.put_comm a v undef h2]; exact h⟩

/-- From any point of the head: each operation that may come up is one of the head. -/
def hAnyL (P : Program) (md : Region.Mode) (ops : Array Oper) (C : World → Prop) (m : Nat) (L : Array Bool → Act → Prop) : Nat → Array Bool → Act → Prop
  | 0, listed, a => L listed a
  | f + 1, listed, a =>
    Region.ready md ops listed ≠ [] ∧ ∀ i ∈ Region.ready md ops listed, i < m ∧ hOp P ops C i (hAnyL P md ops C m L f (listed.setIfInBounds i true)) a

theorem wpAnyIn_of_head (hF : IsWide F) {m g : Nat} {L : Array Bool → Act → Prop} {Q' : Exit → Act → World → Prop} (hL : ∀ listed a w, C w → L listed a → wpAnyIn F n P md ops Q' g listed a w) :
    ∀ (f : Nat) (listed : Array Bool) (a : Act) (w : World), C w → hAnyL P md ops C m L f listed a → wpAnyIn F n P md ops Q' (f + g) listed a w
  | 0, listed, a, w, hw, h => by rw [Nat.zero_add]; exact hL _ _ _ hw h
  | f + 1, listed, a, w, hw, h => by
    rw [show f + 1 + g = (f + g) + 1 by omega]
    exact ⟨fun h0 => absurd h0 h.1, fun i hi => wpOpIn_of_hOp hF hw (fun a' w' hw' h' => wpAnyIn_of_head hF hL f _ a' w' hw' h') (h.2 i hi).2⟩

theorem hAnyL_first {m i : Nat} {oi : Oper} {v : Value} {L : Array Bool → Act → Prop} (hi : ops[i]? = some oi) (hsel : ∀ (j : Nat) (o : Oper) cs b, ops[j]? = some o → o.op ≠ .select cs b)
    (hs : Region.sinkB md ops m = true) (hc : Region.chainB md ops m = true) (hn : m < ops.size) (hin : i < m)
    (hdone : ∀ listed a, L listed a → ∀ j ∈ Region.ready md ops listed, m ≤ j) :
    ∀ (f : Nat) (listed : Array Bool) (a : Act), HeadInv md ops m listed →
      (∀ j oj, ops[j]? = some oj → j ≠ i → listed.getD j true = false → (∀ e ∈ oj.after, Region.binds md e = true → e.on ≠ i) → oi.apart ops oj = true) →
      i ∈ Region.ready md ops listed → HYields P ops C oi v a →
      hAnyL P md ops C m L f (listed.setIfInBounds i true) (a.put oi.dst v) → hAnyL P md ops C m L (f + 1) listed a := by
  intro f
  induction f with
  | zero =>
    intro listed a inv _ hr hy H
    have hun := (mem_ready.1 hr).1
    refine ⟨fun h => (by rw [h] at hr; cases hr), fun j hj => ?_⟩
    have hjn : j < m := by
      rcases Nat.lt_or_ge j m with h | h
      · exact h
      · exact absurd hj (tail_waits hs hc hn inv _ i rfl hin hun j h)
    refine ⟨hjn, ?_⟩
    by_cases hji : j = i
    · subst hji; exact hy.hOp hi H
    · have := hdone _ _ H j (ready_mono hj hji)
      omega
  | succ f ih =>
    intro listed a inv hfree hr hy H
    have hun := (mem_ready.1 hr).1
    refine ⟨fun h => (by rw [h] at hr; cases hr), fun j hj => ?_⟩
    have hjn : j < m := by
      rcases Nat.lt_or_ge j m with h | h
      · exact h
      · exact absurd hj (tail_waits hs hc hn inv _ i rfl hin hun j h)
    refine ⟨hjn, ?_⟩
    by_cases hji : j = i
    · subst hji; exact hy.hOp hi H
    · have h1 := (H.2 j (ready_mono hj hji)).2
      obtain ⟨hjun, oj, hoj, hall⟩ := mem_ready.1 hj
      have hnot : ∀ e ∈ oj.after, Region.binds md e = true → e.on ≠ i := fun e he hb heq => by
        have h1 := hall e he hb
        rw [heq, getD_both hun] at h1
        cases h1
      have h2 := hOp_put hoj (hfree j oj hoj hji hjun hnot) (fun cs b => hsel i oi cs b hi) (fun cs b => hsel j oj cs b hoj) hy h1
      have hfree' : ∀ k ok, ops[k]? = some ok → k ≠ i → (listed.setIfInBounds j true).getD k true = false →
          (∀ e ∈ ok.after, Region.binds md e = true → e.on ≠ i) → oi.apart ops ok = true := fun k ok hk hki hun hno => by
        refine hfree k ok hk hki ?_ hno
        by_cases hjk : j = k
        · subst hjk; exact hjun
        · rw [getD_set_ne true hjk] at hun; exact hun
      refine hOp_mono (fun a' h3 => ih (listed.setIfInBounds j true) a' (inv.set hj hjn) hfree' (ready_mono hr (Ne.symm hji)) h3.1 ?_) h2
      rw [Array.setIfInBounds_comm _ _ hji]
      exact h3.2

theorem wpAnyIn_of_seq {Q' : Exit → Act → World → Prop} : ∀ (l : List Oper) (k : Nat) (listed : Array Bool) (a : Act) (w : World), (∀ j, l[j]? = ops[k + j]?) →
    Region.seqB md ops l.length k listed = true → wpListIn F n P ops Q' l a w → wpAnyIn F n P md ops Q' l.length listed a w
  | [], _, _, _, _, _, hB, h => ⟨by simpa [Region.seqB] using hB, h⟩
  | o :: l, k, listed, a, w, hl, hB, h => by
    have h0 : ops[k]? = some o := by simpa using (hl 0).symm
    simp only [List.length_cons, Region.seqB, Bool.and_eq_true, decide_eq_true_eq] at hB
    refine ⟨fun h1 => (by rw [hB.1] at h1; cases h1), fun i hi => ?_⟩
    rw [hB.1] at hi
    have hik : i = k := by simpa using hi
    subst hik
    have hw : wpOpIn F n P ops Q' i (wpListIn F n P ops Q' l) a w := by unfold wpOpIn; simp only [h0]; exact h
    exact wpOpIn_mono (fun a' w' h' => wpAnyIn_of_seq l (i + 1) _ a' w' (fun j => by have := hl (j + 1); simpa [Nat.add_assoc, Nat.add_comm 1 j] using this) hB.2 h') hw

theorem hAnyL_lex {m g : Nat} {Lq : Act → Prop} (hsel : Region.noSelect ops = true) (hs : Region.sinkB md ops m = true) (hc : Region.chainB md ops m = true) (hn : m < ops.size) :
    ∀ (l : List Oper) (k : Nat) (listed : Array Bool) (a : Act), (∀ j, j < l.length → l[j]? = ops[k + j]?) → k + l.length = m → HeadInv md ops m listed →
    Region.lexHead md ops g l.length k listed = true → hList P ops C Lq l a →
    hAnyL P md ops C m (fun listed' a' => Region.seqB md ops g m listed' = true ∧ Lq a') l.length listed a
  | [], k, listed, a, _, hk, _, hB, h => by
    have : k = m := by simpa using hk
    subst this
    exact ⟨by simpa [Region.lexHead] using hB, h⟩
  | o :: l, k, listed, a, hl, hk, inv, hB, h => by
    have h0 : ops[k]? = some o := by simpa using (hl 0 (by simp)).symm
    simp only [List.length_cons, Region.lexHead, Bool.and_eq_true] at hB
    obtain ⟨⟨hr, hf⟩, hB'⟩ := hB
    have hkn : k < m := by simp only [List.length_cons] at hk; omega
    have hr' : k ∈ Region.ready md ops listed := by simpa using hr
    have hst : hOp P ops C k (hList P ops C Lq l) a := by unfold hOp; simp only [h0]; exact h
    obtain ⟨v, hy, hK⟩ := hYields_of_hOp h0 hst
    exact hAnyL_first h0 (Region.noSelect_spec hsel) hs hc hn hkn (fun listed' a' hL => seqB_ready hL.1) l.length listed a inv (Region.free_spec h0 hf) hr' hy
      (hAnyL_lex hsel hs hc hn l (k + 1) _ _ (fun j hj => by have := hl (j + 1) (by simp; omega); simpa [Nat.add_assoc, Nat.add_comm 1 j] using this) (by simp only [List.length_cons] at hk; omega) (inv.set hr' hkn) hB' hK)

/-- **A DRAWN REGION: a head that is quiet in the class C (operations 0 to m - 1), then the others one behind the other.** -/
theorem wpIn_region_head (hF : IsWide F) {id : Nat} {Q : Exit → Act → World → Prop} {a : Act} {w : World} {l : List Oper} (m : Nat) (C : World → Prop) (hm : P.follows .mixedOrders = true) (hB : Region.lexTailB .any l.toArray m = true) (hC : C w.drew)
    (h : hList P l.toArray C (fun a' => ∀ w', C w' → wpListIn F n P l.toArray Q (l.drop m) a' w') (l.take m) a) : (Code.region id l.toArray true).wpIn F n P Q a w := by
  simp only [Region.lexTailB, Bool.and_eq_true, decide_eq_true_eq] at hB
  obtain ⟨⟨⟨⟨hsel, hn⟩, hs⟩, hc⟩, hlex⟩ := hB
  have hn' : m < l.length := by simpa using hn
  have htl : (l.take m).length = m := by simp; omega
  have hdl : (l.drop m).length = l.toArray.size - m := by simp
  have inv0 : HeadInv .any l.toArray m (Array.replicate l.toArray.size false) :=
    ⟨by simp, fun j oj _ hl => (by rw [getD_replicate_false] at hl; cases hl), fun t _ ht => getD_in (by simpa using ht) (getD_replicate_false _ _)⟩
  have H := hAnyL_lex (P := P) (C := C) (md := .any) (g := l.toArray.size - m) hsel hs hc hn (l.take m) 0 _ a (fun j hj => by
    have hj' : j < m := by rw [htl] at hj; exact hj
    simp [hj']) (by simpa using htl) inv0 (by rw [htl]; exact hlex) h
  refine wpIn_region_any hm ?_
  have := wpAnyIn_of_head hF (n := n) (Q' := Q) (g := l.toArray.size - m) (fun listed a' w' hw' hL => by
    have := wpAnyIn_of_seq (F := F) (n := n) (P := P) (md := .any) (Q' := Q) (l.drop m) m listed a' w' (fun j => by simp [List.getElem?_drop]) (by rw [hdl]; exact hL.1) (hL.2 w' hw')
    rwa [hdl] at this) _ _ _ _ hC H
  rw [htl, show m + (l.toArray.size - m) = l.toArray.size by omega] at this
  exact this
end

/-! ### the head's steps -/
section steps
variable {P : Program} {ops : Array Oper} {C : World → Prop} {Q : Act → Prop} {o : Oper} {rest : List Oper} {a : Act}
theorem hList_nil (h : Q a) : hList P ops C Q [] a := h
theorem hList_skip (hw : Region.wanted o (yielded ops a.tmps) = false) (h : hList P ops C Q rest (a.put o.dst undef)) : hList P ops C Q (o :: rest) a := by
  unfold hList; rw [if_neg (by rw [hw]; simp)]; exact h
theorem hList_val {v : Value} (hw : Region.wanted o (yielded ops a.tmps) = true) (hnd : ∀ c, o.op ≠ .defer c) (hrun : ∀ w, C w → (execOp a.eval o).run P w = .ok (.value v) w) (h : hList P ops C Q rest (a.put o.dst v)) : hList P ops C Q (o :: rest) a := by
  unfold hList; rw [if_pos hw]; exact ⟨v, fun w hc => ⟨hnd, by rw [hrun w hc]; exact ⟨hc, rfl⟩⟩, h⟩
theorem hList_move {x : Operand} {v : Value} (hw : Region.wanted o (yielded ops a.tmps) = true) (ho : o.op = .move x) (hx : a.eval x = v) (h : hList P ops C Q rest (a.put o.dst v)) : hList P ops C Q (o :: rest) a :=
  hList_val hw (fun c => by rw [ho]; exact fun h => by cases h) (fun w _ => by simp [execOp, ho, hx]) h
theorem hList_assign {x : Operand} {v : Value} (hw : Region.wanted o (yielded ops a.tmps) = true) (ho : o.op = .assign x) (hx : a.eval x = v) (h : hList P ops C Q rest (a.put o.dst v)) : hList P ops C Q (o :: rest) a :=
  hList_val hw (fun c => by rw [ho]; exact fun h => by cases h) (fun w _ => by simp [execOp, ho, hx]) h
theorem hList_load {T : TypeId} {x : Operand} {v : Value} {b off : Nat} (hw : Region.wanted o (yielded ops a.tmps) = true) (ho : o.op = .load T x) (hx : a.eval x = .pointer (some ⟨b, off, none⟩)) (hv : VOf P T v) (hr : ∀ w, C w → w.rangeAt b off (cv v).toList)
    (h : hList P ops C Q rest (a.put o.dst v)) : hList P ops C Q (o :: rest) a :=
  hList_val hw (fun c => by rw [ho]; exact fun h => by cases h) (fun w hc => by
    simp [execOp, ho, hx, Instr.loadAt, Instr.sureAddr, Sem.run_bind, run_loadVar_of w b off T v hv (hr w hc), Result.andThen]) h
theorem hList_loadbox {T T' : TypeId} {x : Operand} {v : Value} {B : Nat} (hw : Region.wanted o (yielded ops a.tmps) = true) (ho : o.op = .load T x) (hx : a.eval x = .pointer (some ⟨B, 0, none⟩)) (hv : VOf P T v) (hr : ∀ w, C w → BoxV w B T' v)
    (h : hList P ops C Q rest (a.put o.dst v)) : hList P ops C Q (o :: rest) a :=
  hList_load hw ho hx hv (fun w hc => rangeAt_box (hr w hc)) h
/-- A call, by whatever function value. -/
theorem hList_call {f : Operand} {xs : Array Operand} {ts : Array TypeId} {v : Value} {g : Nat} {lb args : Array Value} (hw : Region.wanted o (yielded ops a.tmps) = true)
    (ho : o.op = Op.call { callee := Callee.value f, args := xs, argTypes := ts }) (hf : a.eval f = .func (.func g) #[] lb) (hargs : (xs.toList.map a.eval).toArray = args) (eg : Enters P g)
    (hc : ∀ w, C w → Calls P g (args ++ lb) w (fun e w' => e = .returned v ∧ C w')) (h : hList P ops C Q rest (a.put o.dst v)) : hList P ops C Q (o :: rest) a := by
  unfold hList; rw [if_pos hw]
  refine ⟨v, fun w hcw => ⟨fun c => by rw [ho]; exact (fun h => by cases h), ?_⟩, h⟩
  replace hargs : xs.map a.eval = args := by rw [← hargs, ← Array.toList_map]
  have : (execOp a.eval o).run P w = .ok (.enter g (args ++ lb)) w := by
    have h2 : (invoke (.fn (.func g) lb) args).run P w = .ok (.enter g (args ++ lb)) w := by
      simpa [invoke] using eg (args ++ lb) w
    simp only [execOp, ho, resolve, hf, hargs]
    simpa [Deferred.ofValue, Sem.run_bind, Result.andThen, go_sem] using h2
  rw [this]
  exact hc w hcw
/-- A call of a declared function. -/
theorem hList_callf {xs : Array Operand} {ts : Array TypeId} {v : Value} (g : Nat) {args : Array Value} (hw : Region.wanted o (yielded ops a.tmps) = true)
    (ho : o.op = Op.call { callee := Callee.value (.func g), args := xs, argTypes := ts }) (eg : Enters P g) (hargs : (xs.toList.map a.eval).toArray = args)
    (hc : ∀ w, C w → Calls P g args w (fun e w' => e = .returned v ∧ C w')) (h : hList P ops C Q rest (a.put o.dst v)) : hList P ops C Q (o :: rest) a :=
  hList_call (f := .func g) (lb := #[]) hw ho rfl hargs eg (fun w hw' => by rw [Array.append_empty]; exact hc w hw') h
end steps

end Go.Proofs.Ytinofjenoapeaaa
