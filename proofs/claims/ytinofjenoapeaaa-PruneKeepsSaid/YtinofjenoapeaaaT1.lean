/- Rules of this claim's own, over any program: a walk is cut, and what follows the cut is shown once. No condition. -/
import Derived.Test.YtinofjenoapeaaaT0
namespace Go.Proofs.Ytinofjenoapeaaa
open Go.RowKit Go.Shelf
set_option linter.unusedSimpArgs false
set_option linter.unusedVariables false
section
variable {F : Fence} {m : Nat} {P : Program} {Q Q' : Exit → Act → World → Prop} {K K' : Act → World → Prop} {n : Nat} {l : List (Nat × Value)} {d : List Deferred} {W0 : World} {X : Nat → Prop} {R C : List Ch}
theorem oper_mono {o : Oper} {a : Act} {w : World} (h : ∀ a w, K a w → K' a w) (hq : ∀ e a w, Q e a w → Q' e a w)
    (hh : o.wpIn F n P a w K Q) : o.wpIn F n P a w K' Q' := by
  unfold Oper.wpIn at *
  refine ⟨hh.1, ?_⟩
  have hh := hh.2
  generalize (o.semAt F.round a.eval).run P w = r at *
  cases r with
  | ok x w' =>
    cases x <;> simp only [Oper.uponIn] at hh ⊢ <;>
      first
        | exact h _ _ hh
        | exact hq _ _ _ hh
        | exact ⟨hh.1, CallsIn.mono hh.2 (fun e w'' he => by cases e <;> first | exact h _ _ he | exact hq _ _ _ he | exact (let ⟨a, w, h⟩ := he; ⟨a, w, hq _ _ _ h⟩))⟩
        | exact ⟨hh.1, RowsIn.mono hh.2 (fun _ _ he => h _ _ he)⟩
        | exact ⟨hh.1, RoundIn.mono hh.2 (fun e w'' he => by cases e <;> first | exact h _ _ he | exact hq _ _ _ he | exact (let ⟨a, w, h⟩ := he; ⟨a, w, hq _ _ _ h⟩))⟩
  | halt x w' => cases x <;> simp only [Oper.uponIn] at hh ⊢ <;> first | exact hq _ _ _ hh | exact hh
theorem list_mono {ops : Array Oper} (hq : ∀ e a w, Q e a w → Q' e a w) : ∀ (os : List Oper) (a : Act) (w : World), wpListIn F m P ops Q os a w → wpListIn F m P ops Q' os a w
  | [], a, w, h => hq _ _ _ h
  | o :: os, a, w, h => by
    unfold wpListIn at h ⊢
    split
    · rename_i hw; rw [if_pos hw] at h; exact oper_mono (fun a w h => list_mono hq os a w h) hq h
    · rename_i hw; rw [if_neg hw] at h; exact ⟨h.1, list_mono hq os _ _ h.2⟩
theorem then_mono (h : ∀ a w, K a w → K' a w) : ∀ e a w, Exit.then K Q e a w → Exit.then K' Q e a w := fun e a w he => by
  cases e <;> first | exact h _ _ he | exact he
/-- What stands behind a cut: any of a family of states goes on. -/
def Cut {ι : Type} (K : Act → World → Prop) (n : Nat) (d : List Deferred) (W0 : World) (X : Nat → Prop) (L : ι → List (Nat × Value)) (RR CC : ι → List Ch) : Prop := ∀ i l2 R2 C2, (∀ j v, lk j (L i) = some v → lk j l2 = some v) → (∀ r ∈ RR i, r ∈ R2) → Holds C2 (CC i) → Nx K n l2 d W0 X R2 C2
variable {ι : Type}
theorem Cut.mk {L : ι → List (Nat × Value)} {RR CC : ι → List Ch} (h : ∀ i, Nx K n (L i) d W0 X (RR i) (CC i)) : Cut K n d W0 X L RR CC := fun i l2 R2 C2 h1 h2 h3 => (h i).weak h1 h2 h3
theorem wpIn_cut1 {x rest : Code} {a : Act} {w : World} (hK : ∀ a w, K a w → rest.wpIn F m P Q a w) (h : x.wpIn F m P (Exit.then K Q) a w) : (Code.seq x rest).wpIn F m P Q a w :=
  wpIn_seq (wpIn_mono h (then_mono hK))
/-- The rest of a region, one code, and what follows. -/
theorem nl_cut0 {ops : Array Oper} {os : List Oper} {rest : Code} (L : ι → List (Nat × Value)) (RR CC : ι → List Ch) (hr : ∀ i, Nx (rest.wpIn F m P Q) n (L i) d W0 X (RR i) (CC i))
    (h : ∀ K, Cut K n d W0 X L RR CC → Nx (wpListIn F m P ops (Exit.then K Q) os) n l d W0 X R C) : Nx (wpListIn F m P ops (Exit.then (rest.wpIn F m P Q) Q) os) n l d W0 X R C := h _ (Cut.mk hr)
theorem nl_cut1 {ops : Array Oper} {os : List Oper} {x rest : Code} (L : ι → List (Nat × Value)) (RR CC : ι → List Ch) (hr : ∀ i, Nx (rest.wpIn F m P Q) n (L i) d W0 X (RR i) (CC i))
    (h : ∀ K, Cut K n d W0 X L RR CC → Nx (wpListIn F m P ops (Exit.then (x.wpIn F m P (Exit.then K Q)) Q) os) n l d W0 X R C) : Nx (wpListIn F m P ops (Exit.then ((Code.seq x rest).wpIn F m P Q) Q) os) n l d W0 X R C := fun a w ha hw =>
  list_mono (then_mono fun _ _ h => wpIn_cut1 (fun _ _ h => h) h) os a w (h _ (Cut.mk hr) a w ha hw)
/-- The same, where the region and the one code stand in a group of their own. -/
theorem nl_cutG {ops : Array Oper} {os : List Oper} {x rest : Code} (L : ι → List (Nat × Value)) (RR CC : ι → List Ch) (hr : ∀ i, Nx (rest.wpIn F m P Q) n (L i) d W0 X (RR i) (CC i))
    (h : ∀ K, Cut K n d W0 X L RR CC → Nx (wpListIn F m P ops (Exit.then (x.wpIn F m P (Exit.then K Q)) (Exit.then K Q)) os) n l d W0 X R C) : Nx (wpListIn F m P ops (Exit.then (x.wpIn F m P (Exit.then (rest.wpIn F m P Q) Q)) (Exit.then (rest.wpIn F m P Q) Q)) os) n l d W0 X R C := h _ (Cut.mk hr)
theorem nl_cut2 {ops : Array Oper} {os : List Oper} {x y rest : Code} (L : ι → List (Nat × Value)) (RR CC : ι → List Ch) (hr : ∀ i, Nx (rest.wpIn F m P Q) n (L i) d W0 X (RR i) (CC i))
    (h : ∀ K, Cut K n d W0 X L RR CC → Nx (wpListIn F m P ops (Exit.then (x.wpIn F m P (Exit.then (y.wpIn F m P (Exit.then K Q)) Q)) Q) os) n l d W0 X R C) : Nx (wpListIn F m P ops (Exit.then ((Code.seq x (Code.seq y rest)).wpIn F m P Q) Q) os) n l d W0 X R C := fun a w ha hw =>
  list_mono (then_mono fun _ _ h => wpIn_cut1 (fun _ _ h => wpIn_cut1 (fun _ _ h => h) h) h) os a w (h _ (Cut.mk hr) a w ha hw)
theorem nl_cut3 {ops : Array Oper} {os : List Oper} {x y z rest : Code} (L : ι → List (Nat × Value)) (RR CC : ι → List Ch) (hr : ∀ i, Nx (rest.wpIn F m P Q) n (L i) d W0 X (RR i) (CC i))
    (h : ∀ K, Cut K n d W0 X L RR CC → Nx (wpListIn F m P ops (Exit.then (x.wpIn F m P (Exit.then (y.wpIn F m P (Exit.then (z.wpIn F m P (Exit.then K Q)) Q)) Q)) Q) os) n l d W0 X R C) : Nx (wpListIn F m P ops (Exit.then ((Code.seq x (Code.seq y (Code.seq z rest))).wpIn F m P Q) Q) os) n l d W0 X R C := fun a w ha hw =>
  list_mono (then_mono fun _ _ h => wpIn_cut1 (fun _ _ h => wpIn_cut1 (fun _ _ h => wpIn_cut1 (fun _ _ h => h) h) h) h) os a w (h _ (Cut.mk hr) a w ha hw)
end
section
variable {P : Program} {G : World → Prop} {n : Nat} {l : List (Nat × Value)} {d : List Deferred} {o : Oper}
theorem yl_neq_same {T T2 : TypeId} {x y : Operand} {b : Bool} (ho : o.op = .binOp .neq T x y T2) (hx : ev l x = some (.bool b)) (hy : ev l y = some (.bool b)) (hT : isBoT P T = true) : Yl P G n l d o (.bool false) := by
  have := yl_neq_bo (P := P) (G := G) (n := n) (d := d) ho hx hy hT
  simpa using this
end
end Go.Proofs.Ytinofjenoapeaaa
