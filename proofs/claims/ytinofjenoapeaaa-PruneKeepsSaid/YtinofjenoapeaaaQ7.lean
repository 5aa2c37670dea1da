/- A law of this claim's own, over any program: a region that draws its order, whose operations each yield one value in every world that may stand when they come up, though some of them write: what stands is told by which operations are done. One walk in the order of the text serves every order. No condition. -/
import Derived.Test.YtinofjenoapeaaaQ6
namespace Go.Proofs.Ytinofjenoapeaaa
open Go.RowKit Go.Shelf
set_option linter.unusedSimpArgs false
set_option linter.unusedVariables false

section
variable {F : Fence} {n : Nat} {P : Program} {ops : Array Oper} {md : Region.Mode} {D : Array Bool → World → Prop}

/-- Operation i, coming up in state a in whatever world stands then, yields v. -/
def gAt (P : Program) (i : Nat) (o : Oper) (a : Act) (D : Array Bool → World → Prop) (v : Value) : Prop :=
  (∀ c, o.op ≠ .defer c) ∧ ∀ listed w, D listed w → listed.getD i true = false → hUpon P (D (listed.setIfInBounds i true)) v ((execOp a.eval o).run P w)
/-- Operation i is passed over. -/
def gPass (i : Nat) (D : Array Bool → World → Prop) : Prop := ∀ listed w, D listed w → listed.getD i true = false → D (listed.setIfInBounds i true) w

def gOp (P : Program) (ops : Array Oper) (D : Array Bool → World → Prop) (i : Nat) (K : Act → Prop) (a : Act) : Prop :=
  match ops[i]? with
  | none => False
  | some o => if Region.wanted o (yielded ops a.tmps) then ∃ v, gAt P i o a D v ∧ K (a.put o.dst v) else gPass i D ∧ K (a.put o.dst undef)

/-- The walk in the order of the text. -/
def gList (P : Program) (ops : Array Oper) (D : Array Bool → World → Prop) (Q : Act → Prop) : Nat → List Oper → Act → Prop
  | _, [], a => Q a
  | k, o :: rest, a => if Region.wanted o (yielded ops a.tmps) then ∃ v, gAt P k o a D v ∧ gList P ops D Q (k + 1) rest (a.put o.dst v) else gPass k D ∧ gList P ops D Q (k + 1) rest (a.put o.dst undef)

theorem gOp_mono {i : Nat} {a : Act} {K K' : Act → Prop} (h : ∀ a, K a → K' a) (hh : gOp P ops D i K a) : gOp P ops D i K' a := by
  unfold gOp at *
  split
  · rename_i ho; simp only [ho] at hh
  · rename_i o ho
    simp only [ho] at hh
    split
    · rename_i hw; simp only [hw, if_true] at hh; obtain ⟨v, h1, h2⟩ := hh; exact ⟨v, h1, h _ h2⟩
    · rename_i hw; simp only [hw] at hh; exact ⟨hh.1, h _ hh.2⟩

theorem wpOpIn_of_gOp (hF : IsWide F) {i : Nat} {a : Act} {K : Act → Prop} {K' : Act → World → Prop} {Q' : Exit → Act → World → Prop} {w : World} {listed : Array Bool} (hD : D listed w) (hun : listed.getD i true = false)
    (h : ∀ a w', D (listed.setIfInBounds i true) w' → K a → K' a w') (hh : gOp P ops D i K a) : wpOpIn F n P ops Q' i K' a w := by
  unfold gOp at hh
  unfold wpOpIn
  split
  · rename_i ho; simp only [ho] at hh
  · rename_i o ho
    simp only [ho] at hh
    split
    · rename_i hw
      simp only [hw, if_true] at hh
      obtain ⟨v, ⟨hnd, h1⟩, h2⟩ := hh
      have h3 := h1 listed w hD hun
      refine ⟨fun _ _ => hF.fn _, ?_⟩
      rw [Oper.semAt_eq _ _ _ hnd]
      generalize (execOp a.eval o).run P w = r at *
      cases r with
      | ok x w' =>
        cases x <;> simp only [hUpon] at h3 <;> simp only [Oper.uponIn]
        case value u =>
          obtain ⟨e1, rfl⟩ := h3
          exact h _ _ e1 h2
        case skip =>
          obtain ⟨e1, rfl⟩ := h3
          exact h _ _ e1 h2
        case enter f args =>
          refine ⟨fun hd => absurd hd (by rw [hF.depth]; simp), ?_⟩
          exact hF.callsIn (h3.mono fun e w'' ⟨he, hw''⟩ => by subst he; exact h _ _ hw'' h2)
      | halt x w' => simp only [hUpon] at h3
    · rename_i hw; simp only [hw] at hh; exact ⟨fun _ _ => hF.fn _, h _ _ (hh.1 _ _ hD hun) hh.2⟩

/-- In state a operation i leaves v in its temporary. -/
def GYields (P : Program) (ops : Array Oper) (D : Array Bool → World → Prop) (i : Nat) (o : Oper) (v : Value) (a : Act) : Prop :=
  (Region.wanted o (yielded ops a.tmps) = true ∧ gAt P i o a D v) ∨ (Region.wanted o (yielded ops a.tmps) = false ∧ gPass i D ∧ v = undef)

theorem GYields.gOp {i : Nat} {o : Oper} {v : Value} {a : Act} (hi : ops[i]? = some o) (hy : GYields P ops D i o v a) {K : Act → Prop} (h : K (a.put o.dst v)) : gOp P ops D i K a := by
  unfold Proofs.Ytinofjenoapeaaa.gOp
  simp only [hi]
  rcases hy with ⟨hw, hv⟩ | ⟨hw, hp, rfl⟩
  · simp only [hw, if_true]; exact ⟨v, hv, h⟩
  · simp only [hw, Bool.false_eq_true, if_false]; exact ⟨hp, h⟩

theorem GYields.of_same {i : Nat} {o : Oper} {v : Value} {a a' : Act} (hy : GYields P ops D i o v a) (he : execOp a'.eval o = execOp a.eval o)
    (hw : Region.wanted o (yielded ops a'.tmps) = Region.wanted o (yielded ops a.tmps)) : GYields P ops D i o v a' := by
  unfold GYields gAt at *
  rw [he, hw]
  exact hy

theorem gYields_of_gOp {i : Nat} {o : Oper} {a : Act} {K : Act → Prop} (hi : ops[i]? = some o) (h : gOp P ops D i K a) : ∃ v, GYields P ops D i o v a ∧ K (a.put o.dst v) := by
  unfold gOp at h
  simp only [hi] at h
  by_cases hw : Region.wanted o (yielded ops a.tmps) = true
  · simp only [hw, if_true] at h
    obtain ⟨v, h1, h2⟩ := h
    exact ⟨v, .inl ⟨hw, h1⟩, h2⟩
  · simp only [hw] at h
    exact ⟨undef, .inr ⟨by simpa using hw, h.1, rfl⟩, h.2⟩

theorem gOp_put {i j : Nat} {oi oj : Oper} {v : Value} (hj : ops[j]? = some oj) (hap : oi.apart ops oj = true)
    (hsi : ∀ cs b, oi.op ≠ .select cs b) (hsj : ∀ cs b, oj.op ≠ .select cs b) {K : Act → Prop} {a : Act}
    (hy : GYields P ops D i oi v a) (h : gOp P ops D j K (a.put oi.dst v)) :
    gOp P ops D j (fun a' => GYields P ops D i oi v a' ∧ K (a'.put oi.dst v)) a := by
  obtain ⟨h1, h2, h3⟩ := Oper.apart_spec hap
  have keep : ∀ (a : Act), GYields P ops D i oi v a → ∀ u, GYields P ops D i oi v (a.put oj.dst u) := fun a hy u =>
    hy.of_same (execOp_put oi hsi a oj.dst u h3) (wanted_put oi a oj.dst u h3)
  unfold gOp at *
  simp only [hj] at *
  rw [wanted_put oj a oi.dst v h1] at h
  split
  · rename_i hw
    simp only [hw, if_true] at h
    obtain ⟨u, hu, hn⟩ := h
    refine ⟨u, ?_, keep a hy u, by rw [← Act.put_comm a v u h2]; exact hn⟩
    unfold gAt at *
    rwa [execOp_put oj hsj a oi.dst v h1] at hu
  · rename_i hw
    simp only [hw] at h
    exact ⟨h.1, keep a hy _, by rw [← Act.put_comm a v undef h2]; exact h.2⟩

def gAnyL (P : Program) (md : Region.Mode) (ops : Array Oper) (D : Array Bool → World → Prop) (L : Array Bool → Act → Prop) : Nat → Array Bool → Act → Prop
  | 0, listed, a => Region.ready md ops listed = [] ∧ L listed a
  | f + 1, listed, a =>
    Region.ready md ops listed ≠ [] ∧ ∀ i ∈ Region.ready md ops listed, gOp P ops D i (gAnyL P md ops D L f (listed.setIfInBounds i true)) a

theorem wpAnyIn_of_gAny (hF : IsWide F) {L : Array Bool → Act → Prop} {Q' : Exit → Act → World → Prop} (hL : ∀ listed a w, D listed w → L listed a → Q' .normal a w) :
    ∀ (f : Nat) (listed : Array Bool) (a : Act) (w : World), D listed w → gAnyL P md ops D L f listed a → wpAnyIn F n P md ops Q' f listed a w
  | 0, listed, a, w, hw, h => ⟨h.1, hL _ _ _ hw h.2⟩
  | f + 1, listed, a, w, hw, h =>
    ⟨fun h0 => absurd h0 h.1, fun i hi => wpOpIn_of_gOp hF hw (mem_ready.1 hi).1 (fun a' w' hw' h' => wpAnyIn_of_gAny hF hL f _ a' w' hw' h') (h.2 i hi)⟩

theorem gAnyL_first {i : Nat} {oi : Oper} {v : Value} {L : Array Bool → Act → Prop} (hi : ops[i]? = some oi) (hsel : ∀ (j : Nat) (o : Oper) cs b, ops[j]? = some o → o.op ≠ .select cs b) :
    ∀ (f : Nat) (listed : Array Bool) (a : Act),
      (∀ j oj, ops[j]? = some oj → j ≠ i → listed.getD j true = false → (∀ e ∈ oj.after, Region.binds md e = true → e.on ≠ i) → oi.apart ops oj = true) →
      i ∈ Region.ready md ops listed → GYields P ops D i oi v a →
      gAnyL P md ops D L f (listed.setIfInBounds i true) (a.put oi.dst v) → gAnyL P md ops D L (f + 1) listed a := by
  intro f
  induction f with
  | zero =>
    intro listed a _ hr hy H
    refine ⟨fun h => (by rw [h] at hr; cases hr), fun j hj => ?_⟩
    by_cases hji : j = i
    · subst hji; exact hy.gOp hi H
    · have := ready_mono hj hji
      rw [H.1] at this; cases this
  | succ f ih =>
    intro listed a hfree hr hy H
    have hun := (mem_ready.1 hr).1
    refine ⟨fun h => (by rw [h] at hr; cases hr), fun j hj => ?_⟩
    by_cases hji : j = i
    · subst hji; exact hy.gOp hi H
    · have h1 := H.2 j (ready_mono hj hji)
      obtain ⟨hjun, oj, hoj, hall⟩ := mem_ready.1 hj
      have hnot : ∀ e ∈ oj.after, Region.binds md e = true → e.on ≠ i := fun e he hb heq => by
        have h1 := hall e he hb
        rw [heq, getD_both hun] at h1
        cases h1
      have h2 := gOp_put hoj (hfree j oj hoj hji hjun hnot) (fun cs b => hsel i oi cs b hi) (fun cs b => hsel j oj cs b hoj) hy h1
      have hfree' : ∀ k ok, ops[k]? = some ok → k ≠ i → (listed.setIfInBounds j true).getD k true = false →
          (∀ e ∈ ok.after, Region.binds md e = true → e.on ≠ i) → oi.apart ops ok = true := fun k ok hk hki hun hno => by
        refine hfree k ok hk hki ?_ hno
        by_cases hjk : j = k
        · subst hjk; exact hjun
        · rw [getD_set_ne true hjk] at hun; exact hun
      refine gOp_mono (fun a' h3 => ih (listed.setIfInBounds j true) a' hfree' (ready_mono hr (Ne.symm hji)) h3.1 ?_) h2
      rw [Array.setIfInBounds_comm _ _ hji]
      exact h3.2

/-- All operations are done. -/
def AllDone (listed : Array Bool) (m : Nat) : Prop := (∀ j, listed.getD j true = true) ∧ listed.size = m
theorem gAnyL_lex {Lq : Act → Prop} (hsel : Region.noSelect ops = true) :
    ∀ (l : List Oper) (k : Nat) (listed : Array Bool) (a : Act), (∀ j, l[j]? = ops[k + j]?) → (∀ j, listed.getD j true = false → k ≤ j ∧ j < ops.size) → listed.size = ops.size →
    Region.lexFrom md ops l.length k listed = true → gList P ops D Lq k l a →
    gAnyL P md ops D (fun listed' a' => AllDone listed' ops.size ∧ Lq a') l.length listed a
  | [], k, listed, a, hl, hall, hsz, hB, h => by
    refine ⟨by simpa [Region.lexFrom] using hB, ⟨fun j => ?_, hsz⟩, h⟩
    cases hq : listed.getD j true with
    | true => rfl
    | false =>
      obtain ⟨h1, h2⟩ := hall j hq
      have := hl (j - k)
      rw [show k + (j - k) = j by omega, Array.getElem?_eq_getElem h2] at this
      simp at this
  | o :: l, k, listed, a, hl, hall, hsz, hB, h => by
    have h0 : ops[k]? = some o := by simpa using (hl 0).symm
    simp only [List.length_cons, Region.lexFrom, Bool.and_eq_true] at hB
    obtain ⟨⟨hr, hf⟩, hB'⟩ := hB
    have hr' : k ∈ Region.ready md ops listed := by simpa using hr
    have hst : gOp P ops D k (gList P ops D Lq (k + 1) l) a := by unfold gOp; simp only [h0]; exact h
    obtain ⟨v, hy, hK⟩ := gYields_of_gOp h0 hst
    refine gAnyL_first h0 (Region.noSelect_spec hsel) l.length listed a (Region.free_spec h0 hf) hr' hy
      (gAnyL_lex hsel l (k + 1) _ _ (fun j => by have := hl (j + 1); simpa [Nat.add_assoc, Nat.add_comm 1 j] using this) (fun j hj => ?_) (by simpa using hsz) hB' hK)
    by_cases hjk : k = j
    · subst hjk
      have hlt : k < listed.size := by
        have := (mem_ready.1 hr').1
        rcases Nat.lt_or_ge k listed.size with h' | h'
        · exact h'
        · simp [Array.getElem?_eq_none h'] at this
      simp [hlt] at hj
    · rw [getD_set_ne true hjk] at hj
      have := hall j hj
      omega

/-- **A DRAWN REGION, WHOLE.** -/
theorem wpIn_region_free (hF : IsWide F) {id : Nat} {Q : Exit → Act → World → Prop} {a : Act} {w : World} {l : List Oper} (D : Array Bool → World → Prop) (hm : P.follows .mixedOrders = true) (hB : Region.lexB .any l.toArray = true)
    (hD : D (Array.replicate l.length false) w.drew) (h : gList P l.toArray D (fun a' => ∀ listed w', AllDone listed l.length → D listed w' → Q .normal a' w') 0 l a) : (Code.region id l.toArray true).wpIn F n P Q a w := by
  simp only [Region.lexB, Bool.and_eq_true] at hB
  refine wpIn_region_any hm ?_
  have H := gAnyL_lex (P := P) (D := D) (md := .any) hB.1 l 0 (Array.replicate l.toArray.size false) a (by simp) (fun j hj => by
    refine ⟨Nat.zero_le _, ?_⟩
    rcases Nat.lt_or_ge j l.toArray.size with h' | h'
    · exact h'
    · exfalso
      rw [Array.getD_eq_getD_getElem?, Array.getElem?_eq_none (by simpa using h')] at hj
      cases hj) (by simp) (by simpa using hB.2) h
  have := wpAnyIn_of_gAny (F := F) (n := n) (P := P) (md := .any) hF (Q' := Q) (fun listed a' w' hd hL => hL.2 listed w' hL.1 hd) _ _ _ _ (by simpa using hD) H
  simpa using this
end

/-! ### one operation that writes: 's'; what stands is told by whether it is done -/
/-- What stands: G false ahead of operation s, G true behind it. -/
def oneD (s : Nat) (G : Bool → World → Prop) : Array Bool → World → Prop := fun listed w => G (listed.getD s false) w
section steps
variable {P : Program} {ops : Array Oper} {Q : Act → Prop} {o : Oper} {rest : List Oper} {a : Act} {s k : Nat} {G : Bool → World → Prop}
theorem hUpon_mono {C C' : World → Prop} {v : Value} {r : Result Next} (h : ∀ w, C w → C' w) (hr : hUpon P C v r) : hUpon P C' v r := by
  cases r with
  | ok x w' =>
    cases x <;> simp only [hUpon] at *
    case value u => exact ⟨h _ hr.1, hr.2⟩
    case skip => exact ⟨h _ hr.1, hr.2⟩
    case enter f args => exact hr.mono fun e w'' ⟨he, hw⟩ => ⟨he, h _ hw⟩
  | halt x w' => simp only [hUpon] at hr
theorem oneD_other {listed : Array Bool} {w : World} (hk : k ≠ s) : oneD s G (listed.setIfInBounds k true) w = oneD s G listed w := by
  unfold oneD; rw [getD_set_ne false hk]
theorem gList_nil (h : Q a) : gList P ops (oneD s G) Q k [] a := h
theorem gList_skip (hk : k ≠ s) (hw : Region.wanted o (yielded ops a.tmps) = false) (h : gList P ops (oneD s G) Q (k + 1) rest (a.put o.dst undef)) : gList P ops (oneD s G) Q k (o :: rest) a := by
  unfold gList; rw [if_neg (by rw [hw]; simp)]; exact ⟨fun listed w hd _ => by rw [oneD_other hk]; exact hd, h⟩
theorem gList_at {v : Value} (hk : k ≠ s) (hw : Region.wanted o (yielded ops a.tmps) = true) (hnd : ∀ c, o.op ≠ .defer c) (hrun : ∀ b w, G b w → hUpon P (G b) v ((execOp a.eval o).run P w)) (h : gList P ops (oneD s G) Q (k + 1) rest (a.put o.dst v)) : gList P ops (oneD s G) Q k (o :: rest) a := by
  unfold gList; rw [if_pos hw]; exact ⟨v, ⟨hnd, fun listed w hd _ => hUpon_mono (fun w' hw' => by rw [oneD_other hk]; exact hw') (hrun _ w hd)⟩, h⟩
theorem gList_val {v : Value} (hk : k ≠ s) (hw : Region.wanted o (yielded ops a.tmps) = true) (hnd : ∀ c, o.op ≠ .defer c) (hrun : ∀ w, (execOp a.eval o).run P w = .ok (.value v) w) (h : gList P ops (oneD s G) Q (k + 1) rest (a.put o.dst v)) : gList P ops (oneD s G) Q k (o :: rest) a :=
  gList_at hk hw hnd (fun b w hg => by rw [hrun w]; exact ⟨hg, rfl⟩) h
theorem gList_load {T : TypeId} {x : Operand} {v : Value} {b off : Nat} (hk : k ≠ s) (hw : Region.wanted o (yielded ops a.tmps) = true) (ho : o.op = .load T x) (hx : a.eval x = .pointer (some ⟨b, off, none⟩)) (hv : VOf P T v) (hr : ∀ d w, G d w → w.rangeAt b off (cv v).toList)
    (h : gList P ops (oneD s G) Q (k + 1) rest (a.put o.dst v)) : gList P ops (oneD s G) Q k (o :: rest) a :=
  gList_at hk hw (fun c => by rw [ho]; exact fun h => by cases h) (fun d w hg => by
    have : (execOp a.eval o).run P w = .ok (.value v) w := by simp [execOp, ho, hx, Instr.loadAt, Instr.sureAddr, Sem.run_bind, run_loadVar_of w b off T v hv (hr d w hg), Result.andThen]
    rw [this]; exact ⟨hg, rfl⟩) h
theorem gList_loadbox {T T' : TypeId} {x : Operand} {v : Value} {B : Nat} (hk : k ≠ s) (hw : Region.wanted o (yielded ops a.tmps) = true) (ho : o.op = .load T x) (hx : a.eval x = .pointer (some ⟨B, 0, none⟩)) (hv : VOf P T v) (hr : ∀ d w, G d w → BoxV w B T' v)
    (h : gList P ops (oneD s G) Q (k + 1) rest (a.put o.dst v)) : gList P ops (oneD s G) Q k (o :: rest) a :=
  gList_load hk hw ho hx hv (fun d w hg => rangeAt_box (hr d w hg)) h
theorem gList_callf {xs : Array Operand} {ts : Array TypeId} {v : Value} (g : Nat) {args : Array Value} (hk : k ≠ s) (hw : Region.wanted o (yielded ops a.tmps) = true)
    (ho : o.op = Op.call { callee := Callee.value (.func g), args := xs, argTypes := ts }) (eg : Enters P g) (hargs : (xs.toList.map a.eval).toArray = args)
    (hc : ∀ d w, G d w → Calls P g args w (fun e w' => e = .returned v ∧ G d w')) (h : gList P ops (oneD s G) Q (k + 1) rest (a.put o.dst v)) : gList P ops (oneD s G) Q k (o :: rest) a := by
  refine gList_at hk hw (fun c => by rw [ho]; exact (fun h => by cases h)) (fun d w hg => ?_) h
  replace hargs : xs.map a.eval = args := by rw [← hargs, ← Array.toList_map]
  have : (execOp a.eval o).run P w = .ok (.enter g args) w := by
    have h2 : (invoke (.fn (.func g) #[]) args).run P w = .ok (.enter g args) w := by
      simpa [invoke] using eg args w
    have he : a.eval (.func g) = .func (.func g) #[] #[] := rfl
    simp only [execOp, ho, resolve, hargs, he]
    simpa [Deferred.ofValue, Sem.run_bind, Result.andThen, go_sem] using h2
  rw [this]
  exact hc d w hg
/-- The store itself. -/
theorem gList_store {T T' : TypeId} {x y : Operand} {B : Nat} {v v0 : Value} (hk : k = s) (hsz : s < ops.size) (hw : Region.wanted o (yielded ops a.tmps) = true) (ho : o.op = .store T x y) (hx : a.eval x = .pointer (some ⟨B, 0, none⟩)) (hy : a.eval y = v)
    (hv : VOf P T v) (hb : ∀ w, G false w → BoxV w B T' v0) (hs : (cv v0).size = (cv v).size) (hG : ∀ w, G false w → G true (w.setRow B (cv v)))
    (h : gList P ops (oneD s G) Q (k + 1) rest (a.put o.dst undef)) : gList P ops (oneD s G) Q k (o :: rest) a := by
  subst hk
  unfold gList; rw [if_pos hw]
  refine ⟨undef, ⟨(fun c => by rw [ho]; exact (fun h => by cases h)), fun listed w hd hun => ?_⟩, h⟩
  have hlt : k < listed.size := by
    rcases Nat.lt_or_ge k listed.size with h' | h'
    · exact h'
    · simp [Array.getElem?_eq_none h'] at hun
  unfold oneD at hd ⊢
  rw [getD_both hun] at hd
  rw [show (listed.setIfInBounds k true).getD k false = true from by simp [hlt]]
  have : (execOp a.eval o).run P w = .ok .skip (w.setRow B (cv v)) := by simp [execOp, ho, hx, hy, Instr.storeAt, Instr.sureAddr, Sem.run_bind, run_storeVar_of w B T T' v v0 hv (hb w hd) hs, Result.andThen]
  rw [this]
  exact ⟨hG w hd, rfl⟩
theorem oneD_done {m : Nat} {listed : Array Bool} {w : World} (hall : AllDone listed m) (hs : s < m) (h : oneD s G listed w) : G true w := by
  unfold oneD at h
  have := hall.1 s
  rw [← hall.2] at hs
  simp [hs] at this h
  rwa [this] at h
end steps
/-- What stands around one store into the variable B: only B has turned, beside new blocks; it holds v0, and v behind the store. -/
def boxG (B : Nat) (W : World) (T : TypeId) (v0 v : Value) (d : Bool) (w : World) : Prop := Touch (fun k => k = B) W w ∧ BoxV w B T (if d then v else v0)
def BelowBox (B : Nat) (W : World) (T : TypeId) (v : Value) (w : World) : Prop := Touch (fun k => k = B) W w ∧ BoxV w B T v
theorem boxG.later {B : Nat} {W : World} {T : TypeId} {v0 v : Value} {d : Bool} {w w' : World} (h : boxG B W T v0 v d w) (hb : Below w.heap.size w w') : boxG B W T v0 v d w' :=
  ⟨h.1.trans (Touch.of_fresh hb), (hb.block _ h.2.lt).trans h.2⟩
theorem boxG.store {B : Nat} {W : World} {T : TypeId} {v0 v : Value} {w : World} (h : boxG B W T v0 v false w) : boxG B W T v0 v true (w.setRow B (cv v)) :=
  ⟨h.1.trans (Touch.setRow _ _ _ rfl), h.2.set v⟩
end Go.Proofs.Ytinofjenoapeaaa
