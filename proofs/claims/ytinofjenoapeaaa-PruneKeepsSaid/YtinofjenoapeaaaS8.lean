/- Rules of this claim's own, over any program: function values that may be nil; a call of an iterator value with a closure. No condition. -/
import Derived.Test.YtinofjenoapeaaaS7
namespace Go.Proofs.Ytinofjenoapeaaa
open Go.RowKit Go.Shelf
set_option linter.unusedSimpArgs false
set_option linter.unusedVariables false
/-- A function value, or nil. -/
def fnB : Value → Bool
  | .func _ _ _ => true
  | .nilFunc => true
  | _ => false
theorem vof_fn {P : Program} {T : TypeId} {s : Value} (hT : oneT P T = true) (h : fnB s = true) : VOf P T s := by
  unfold fnB at h
  split at h
  · exact vof1 hT rfl rfl
  · exact vof1 hT rfl rfl
  · cases h
/-- An iterator value, or nil, that gives nothing. -/
def ItSN {α : Type} (P : Program) (V : α → List Value → Prop) (D : α → List Value → List Ch) (S : List α → List Ch) (xs : List α) (s : Value) (RS : List Ch) : Prop := ItS P V D S xs s RS ∨ (s = .nilFunc ∧ xs = [])
def ItN (P : Program) (xs : List Value) (s : Value) (RS : List Ch) : Prop := ItSN P (fun x vs => vs = [x]) (fun _ _ => []) (fun _ => []) xs s RS
theorem It.n {P : Program} {xs : List Value} {s : Value} {RS : List Ch} (h : It P xs s RS) : ItN P xs s RS := .inl h
theorem ItS.n {α : Type} {P : Program} {V : α → List Value → Prop} {D : α → List Value → List Ch} {S : List α → List Ch} {xs : List α} {s : Value} {RS : List Ch} (h : ItS P V D S xs s RS) : ItSN P V D S xs s RS := .inl h
theorem ItS.fn {α : Type} {P : Program} {V : α → List Value → Prop} {D : α → List Value → List Ch} {S : List α → List Ch} {xs : List α} {s : Value} {RS : List Ch} (h : ItS P V D S xs s RS) : fnB s = true := by obtain ⟨_, _, rfl, _⟩ := h; rfl
theorem ItSN.fn {α : Type} {P : Program} {V : α → List Value → Prop} {D : α → List Value → List Ch} {S : List α → List Ch} {xs : List α} {s : Value} {RS : List Ch} (h : ItSN P V D S xs s RS) : fnB s = true := by
  rcases h with h | ⟨rfl, _⟩
  · exact h.fn
  · rfl
theorem ItN.fn {P : Program} {xs : List Value} {s : Value} {RS : List Ch} (h : ItN P xs s RS) : fnB s = true := ItSN.fn h
theorem itN_nil {P : Program} {RS : List Ch} : ItN P [] .nilFunc RS := .inr ⟨rfl, rfl⟩
/-- A predicate, or nil, that is so of nothing. -/
def PredN (P : Program) (xs : List Value) (p : Value → Bool) (f : Value) (RF : List Ch) : Prop := PredS P xs p f RF ∨ (f = .nilFunc ∧ ∀ x ∈ xs, p x = false)
theorem PredS.n {P : Program} {xs : List Value} {p : Value → Bool} {f : Value} {RF : List Ch} (h : PredS P xs p f RF) : PredN P xs p f RF := .inl h
theorem predN_nil {P : Program} {xs : List Value} {RF : List Ch} : PredN P xs (fun _ => false) .nilFunc RF := .inr ⟨rfl, fun _ _ => rfl⟩
theorem PredN.fn {P : Program} {xs : List Value} {p : Value → Bool} {f : Value} {RF : List Ch} (h : PredN P xs p f RF) : fnB f = true := by
  rcases h with ⟨_, _, rfl, _⟩ | ⟨rfl, _⟩ <;> rfl
theorem FunS.fn {P : Program} {xs : List Value} {G : Value → Value} {f : Value} {RF : List Ch} (h : FunS P xs G f RF) : fnB f = true := by
  obtain ⟨_, _, rfl, _⟩ := h; rfl

def eiC {α β : Type} (f : α → List Ch) (g : β → List Ch) : α ⊕ β → List Ch
  | .inl a => f a
  | .inr b => g b
section iter
variable {F : Fence} {m : Nat} {P : Program} {Q : Exit → Act → World → Prop} {K : Act → World → Prop} {n : Nat} {l : List (Nat × Value)} {d : List Deferred} {W0 : World} {X : Nat → Prop} {R C E : List Ch} {o : Oper} {t : Nat} {v : Value} {α ι κ : Type}
/-- A call of an iterator value with a known closure. -/
theorem on_iter (hF : IsWide F) {f : Operand} {s : Value} {xo : Array Operand} {ts : Array TypeId} {gy : Nat} {lbY : List Value} {V : α → List Value → Prop} {D : α → List Value → List Ch} {S : List α → List Ch} {xs : List α} {RS : List Ch} (hs : ItS P V D S xs s RS) (ho : o.op = Op.call { callee := Callee.value f, args := xo, argTypes := ts }) (hd : o.dst = some t) (ht : Nat.blt t n = true)
    (hf : ev l f = some s) (hx : evs l xo.toList = some [.func (.func gy) #[] lbY.toArray]) (egy : Enters P gy) (hRS : ∀ r ∈ RS, r ∈ R) (RY : List Ch) (hRY : ∀ r ∈ RY, r ∈ R)
    (PP : List α → ι → Prop) (CC : List α → ι → List Ch) (PX : List α → κ → Prop) (CX : List α → κ → List Ch) (i0 : ι) (h0 : PP [] i0) (hC : C.Perm (S [] ++ (CC [] i0 ++ E)))
    (hround : ∀ pre x post, xs = pre ++ x :: post → ∀ vs, V x vs → ∀ i, PP pre i → ∀ W0 X R' E, (∀ r ∈ RY, r ∈ R') →
      Ct P gy (vs ++ lbY) W0 X R' (D x vs ++ (CC pre i ++ E)) ({ i // PP (pre ++ [x]) i } ⊕ { k // PX (pre ++ [x]) k }) (fun q => .bool q.isLeft) (fun _ => R') (fun q => eiC (fun i : { i // PP (pre ++ [x]) i } => CC (pre ++ [x]) i.1) (fun k : { k // PX (pre ++ [x]) k } => CX (pre ++ [x]) k.1) q ++ E))
    (hdone : ∀ i, PP xs i → Nx K n ((t, .tuple #[]) :: l) d W0 X R (S xs ++ (CC xs i ++ E)))
    (hstop : ∀ pre x post, xs = pre ++ x :: post → ∀ k, PX (pre ++ [x]) k → Nx K n ((t, .tuple #[]) :: l) d W0 X R (S (pre ++ [x]) ++ (CX (pre ++ [x]) k ++ E))) : Nx (OpN F m P o K Q) n l d W0 X R C := by
  obtain ⟨g, lb, rfl, eg, hseq⟩ := hs
  let J : List α → Ch := fun pre => ExC (ι := { i // PP pre i }) (fun i => CC pre i.1)
  let JX : List α → Ch := fun q => ExC (ι := { k // PX q k }) (fun k => CX q k.1)
  have hY : YS P (.func (.func gy) #[] lbY.toArray) RY V D J JX xs := by
    intro pre x post hx2 vs hv W0' X' R' E' hR' B hB
    have hB' := hB.perm List.perm_middle
    obtain ⟨⟨i, hi⟩, hB2⟩ := hB'.exC
    have hB3 : St W0' X' R' (D x vs ++ (CC pre i ++ E')) B := by
      refine hB2.perm ?_
      show (CC pre i ++ (D x vs ++ E')).Perm _
      rw [← List.append_assoc, ← List.append_assoc]
      exact List.Perm.append_right _ List.perm_append_comm
    refine .inr ⟨gy, lbY.toArray, rfl, egy, ?_⟩
    have h1 := hround pre x post hx2 vs hv i hi W0' X' R' E' hR' B hB3
    rw [show (vs ++ lbY).toArray = vs.toArray ++ lbY.toArray by simp] at h1
    refine h1.mono ?_
    rintro e A ⟨q, rfl, hA⟩
    cases q with
    | inl i2 => exact ⟨true, rfl, St.toEx (f := fun i : { i // PP (pre ++ [x]) i } => CC (pre ++ [x]) i.1) i2 hA⟩
    | inr k2 => exact ⟨false, rfl, St.toEx (f := fun k : { k // PX (pre ++ [x]) k } => CX (pre ++ [x]) k.1) k2 hA⟩
  have hc := hseq (.func (.func gy) #[] lbY.toArray) RY J JX hY ⟨_, _, rfl⟩ W0 X R E hRS hRY
  have hc2 : Ct P g ([.func (.func gy) #[] lbY.toArray] ++ lb) W0 X R C (Option (Upto xs)) (fun _ => .tuple #[]) (fun _ => R) (itC xs S J JX E) := fun w hw => by
    refine hc w (St.toEx (f := fun i : { i // PP [] i } => CC [] i.1) ⟨i0, h0⟩ (hw.perm (hC.trans ?_)))
    show (S [] ++ (CC [] i0 ++ E)).Perm (CC [] i0 ++ (S [] ++ E))
    rw [← List.append_assoc, ← List.append_assoc]
    exact List.Perm.append_right _ List.perm_append_comm
  refine on_callc hF ho hd ht hf hx eg hc2 (fun q => ?_)
  intro a w ha hw
  cases q with
  | none =>
    obtain ⟨⟨i, hi⟩, h1⟩ := St.exC (f := fun i : { i // PP xs i } => CC xs i.1) hw
    refine hdone i hi a w ha (h1.perm ?_)
    show (CC xs i ++ (S xs ++ E)).Perm _
    rw [← List.append_assoc, ← List.append_assoc]
    exact List.Perm.append_right _ List.perm_append_comm
  | some q =>
    obtain ⟨q, pre, x, post, rfl, hx2⟩ := q
    obtain ⟨⟨k, hk⟩, h1⟩ := St.exC (f := fun k : { k // PX (pre ++ [x]) k } => CX (pre ++ [x]) k.1) hw
    refine hstop pre x post hx2 k hk a w ha (h1.perm ?_)
    show (CX (pre ++ [x]) k ++ (S (pre ++ [x]) ++ E)).Perm _
    rw [← List.append_assoc, ← List.append_assoc]
    exact List.Perm.append_right _ List.perm_append_comm
end iter
end Go.Proofs.Ytinofjenoapeaaa
