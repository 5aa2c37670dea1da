/- Rules of this claim's own, over any program: calls of yields, predicates and function values; results that lie in memory; a store into a row. No condition. -/
import Derived.Test.YtinofjenoapeaaaS5
namespace Go.Proofs.Ytinofjenoapeaaa
open Go.RowKit Go.Shelf
set_option linter.unusedSimpArgs false
set_option linter.unusedVariables false
section calls
variable {F : Fence} {m : Nat} {P : Program} {Q : Exit → Act → World → Prop} {K : Act → World → Prop} {n : Nat} {l : List (Nat × Value)} {d : List Deferred} {W0 : World} {X : Nat → Prop} {R C E : List Ch} {o : Oper} {t : Nat} {v : Value} {α : Type}
/-- A call of the client's function, in an iterator. -/
theorem on_yield (hF : IsWide F) {f : Operand} {y : Value} {xs : Array Operand} {ts : Array TypeId} {vs : List Value} {RY : List Ch} {V : α → List Value → Prop} {D : α → List Value → List Ch} {J JX : List α → Ch} {zs : List α}
    (hY : YS P y RY V D J JX zs) (pre : List α) (x : α) (post : List α) (hz : zs = pre ++ x :: post) (ho : o.op = Op.call { callee := Callee.value f, args := xs, argTypes := ts }) (hd : o.dst = some t) (ht : Nat.blt t n = true) (hf : ev l f = some y) (hx : evs l xs.toList = some vs) (hv : V x vs) (hR : ∀ r ∈ RY, r ∈ R) (hD : D x vs = []) (hp : Pick C (J pre) E)
    (h1 : Nx K n ((t, .bool true) :: l) d W0 X R (J (pre ++ [x]) :: E)) (h2 : Nx K n ((t, .bool false) :: l) d W0 X R (JX (pre ++ [x]) :: E)) : Nx (OpN F m P o K Q) n l d W0 X R C :=
  on_callv hF ho hd ht hf hx (hY.at hz hv hR (by rw [hD]; exact hp)) (fun b => by cases b; exact h2; exact h1)
/-- The same, handing over what is made. -/
theorem on_yieldD (hF : IsWide F) {f : Operand} {y : Value} {xs : Array Operand} {ts : Array TypeId} {vs : List Value} {RY : List Ch} {V : α → List Value → Prop} {D : α → List Value → List Ch} {J JX : List α → Ch} {zs : List α}
    (hY : YS P y RY V D J JX zs) (pre : List α) (x : α) (post : List α) (hz : zs = pre ++ x :: post) (ho : o.op = Op.call { callee := Callee.value f, args := xs, argTypes := ts }) (hd : o.dst = some t) (ht : Nat.blt t n = true) (hf : ev l f = some y) (hx : evs l xs.toList = some vs) (hv : V x vs) (hR : ∀ r ∈ RY, r ∈ R) (hp : C.Perm (D x vs ++ (J pre :: E)))
    (h1 : Nx K n ((t, .bool true) :: l) d W0 X R (J (pre ++ [x]) :: E)) (h2 : Nx K n ((t, .bool false) :: l) d W0 X R (JX (pre ++ [x]) :: E)) : Nx (OpN F m P o K Q) n l d W0 X R C :=
  on_callv hF ho hd ht hf hx (hY.at hz hv hR hp) (fun b => by cases b; exact h2; exact h1)
/-- A call of a predicate value: both ways. -/
theorem on_pred (hF : IsWide F) {f : Operand} {y x : Value} {xs : Array Operand} {ts : Array TypeId} {zs : List Value} {p : Value → Bool} {RF : List Ch} (hP : PredS P zs p y RF) (ho : o.op = Op.call { callee := Callee.value f, args := xs, argTypes := ts }) (hd : o.dst = some t) (ht : Nat.blt t n = true) (hf : ev l f = some y) (hx : evs l xs.toList = some [x]) (hm : x ∈ zs) (hR : ∀ r ∈ RF, r ∈ R)
    (h1 : p x = true → Nx K n ((t, .bool true) :: l) d W0 X R C) (h2 : p x = false → Nx K n ((t, .bool false) :: l) d W0 X R C) : Nx (OpN F m P o K Q) n l d W0 X R C := by
  obtain ⟨g, lb, rfl, eg, h⟩ := hP
  refine on_callc hF ho hd ht hf hx eg (vs := [x]) (h W0 X R C hR x hm) (fun _ => ?_)
  cases hp : p x with
  | true => exact h1 hp
  | false => exact h2 hp
theorem on_fun (hF : IsWide F) {f : Operand} {y x : Value} {xs : Array Operand} {ts : Array TypeId} {zs : List Value} {G : Value → Value} {RF : List Ch} (hP : FunS P zs G y RF) (ho : o.op = Op.call { callee := Callee.value f, args := xs, argTypes := ts }) (hd : o.dst = some t) (ht : Nat.blt t n = true) (hf : ev l f = some y) (hx : evs l xs.toList = some [x]) (hm : x ∈ zs) (hR : ∀ r ∈ RF, r ∈ R)
    (h : Nx K n ((t, G x) :: l) d W0 X R C) : Nx (OpN F m P o K Q) n l d W0 X R C := by
  obtain ⟨g, lb, rfl, eg, hc⟩ := hP
  exact on_callc hF ho hd ht hf hx eg (vs := [x]) (hc W0 X R C hR x hm) (fun _ => h)
/-- A call of a function that tells a bool: both ways. -/
theorem on_callb (hF : IsWide F) {g : FuncId} {xs : Array Operand} {ts : Array TypeId} {vs : List Value} {b : Bool} (ho : o.op = Op.call { callee := Callee.value (.func g), args := xs, argTypes := ts }) (hd : o.dst = some t) (ht : Nat.blt t n = true)
    (hx : evs l xs.toList = some vs) (eg : Enters P g) (hc : Ct P g vs W0 X R C Unit (fun _ => .bool b) (fun _ => R) (fun _ => C)) (h1 : b = true → Nx K n ((t, .bool true) :: l) d W0 X R C) (h2 : b = false → Nx K n ((t, .bool false) :: l) d W0 X R C) : Nx (OpN F m P o K Q) n l d W0 X R C :=
  on_call hF ho hd ht hx eg hc (fun _ => by
    cases hb : b with
    | true => exact h1 hb
    | false => exact h2 hb)
theorem Ct.pre {g : FuncId} {vs : List Value} {C0 : List Ch} {ι : Type} {ret : ι → Value} {R' C' : ι → List Ch} (h : Ct P g vs W0 X R C0 ι ret R' C') (hp : C.Perm C0) : Ct P g vs W0 X R C ι ret R' C' := fun w hw => h w (hw.perm hp)
theorem PredS.isFunc {zs : List Value} {p : Value → Bool} {y : Value} {RF : List Ch} (h : PredS P zs p y RF) : ∃ f a b, y = .func f a b := let ⟨_, _, h1, _⟩ := h; ⟨_, _, _, h1⟩
theorem FunS.isFunc {zs : List Value} {G : Value → Value} {y : Value} {RF : List Ch} (h : FunS P zs G y RF) : ∃ f a b, y = .func f a b := let ⟨_, _, h1, _⟩ := h; ⟨_, _, _, h1⟩
theorem ItS.isFn {V : α → List Value → Prop} {D : α → List Value → List Ch} {S : List α → List Ch} {xs : List α} {s : Value} {RS : List Ch} (h : ItS P V D S xs s RS) : ∃ f a b, s = .func f a b := let ⟨_, _, h1, _⟩ := h; ⟨_, _, _, h1⟩
end calls
theorem vof_func {P : Program} {T : TypeId} {s : Value} (hT : oneT P T = true) (h : ∃ f a b, s = .func f a b) : VOf P T s := by obtain ⟨f, a, b, rfl⟩ := h; exact vof1 hT rfl rfl
theorem vof_slice {P : Program} {T : TypeId} {s : Value} (hT : oneT P T = true) (h : ∃ a b c, s = .slice a b c) : VOf P T s := by obtain ⟨f, a, b, rfl⟩ := h; exact vof1 hT rfl rfl

/-! ### results that lie in memory -/
section res
variable {P : Program} {fn : Func} {n : Nat} {l : List (Nat × Value)} {d : List Deferred} {W0 : World} {X : Nat → Prop} {R C : List Ch} {v u : Value} {a : Act} {w : World}
theorem res_cell {p B : Nat} {T T' : TypeId} (h : fn.results = #[.cell p T]) (hp : lk p l = some (ptr B)) (hm : BoxC B T' v ∈ C) (hv : VOf P T v) (ha : Kn n l d a) (hw : St W0 X R C w) : (results fn a.tmps).run P w = .ok v w := by
  obtain ⟨_, hb⟩ := hw.hasC hm
  exact results_box1 h (by have := ha.at_ p _ hp; simp [this, ptr]) hb.1 hv
theorem res_cell2 {p q B B2 : Nat} {T T' U U' : TypeId} (h : fn.results = #[.cell p T, .cell q U]) (hp : lk p l = some (ptr B)) (hq : lk q l = some (ptr B2)) (hm : BoxC B T' v ∈ C) (hm2 : BoxC B2 U' u ∈ C) (hv : VOf P T v) (hu : VOf P U u) (ha : Kn n l d a) (hw : St W0 X R C w) : (results fn a.tmps).run P w = .ok (.tuple #[v, u]) w := by
  obtain ⟨_, hb⟩ := hw.hasC hm
  obtain ⟨_, hb2⟩ := hw.hasC hm2
  exact results_box2 h (by have := ha.at_ p _ hp; simp [this, ptr]) (by have := ha.at_ q _ hq; simp [this, ptr]) hb.1 hb2.1 hv hu
theorem res_cell_tmp {p q B : Nat} {T T' : TypeId} (h : fn.results = #[.cell p T, .tmp q]) (hp : lk p l = some (ptr B)) (hq : lk q l = some u) (hm : BoxC B T' v ∈ C) (hv : VOf P T v) (ha : Kn n l d a) (hw : St W0 X R C w) : (results fn a.tmps).run P w = .ok (.tuple #[v, u]) w := by
  obtain ⟨_, hb⟩ := hw.hasC hm
  exact results_box_tmp h (by have := ha.at_ p _ hp; simp [this, ptr]) (by have := ha.at_ q _ hq; simp [this]) hb.1 hv
end res
end Go.Proofs.Ytinofjenoapeaaa
