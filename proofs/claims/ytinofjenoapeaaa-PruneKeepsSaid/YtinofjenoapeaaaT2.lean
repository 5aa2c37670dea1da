/- Rules of this claim's own, over any program: a walk is cut at a loop, and between codes. No condition. -/
import Derived.Test.YtinofjenoapeaaaT1
namespace Go.Proofs.Ytinofjenoapeaaa
open Go.RowKit Go.Shelf
set_option linter.unusedSimpArgs false
set_option linter.unusedVariables false
section
variable {F : Fence} {m : Nat} {P : Program} {Q Q' : Exit → Act → World → Prop} {K K' : Act → World → Prop} {n : Nat} {l : List (Nat × Value)} {d : List Deferred} {W0 : World} {X : Nat → Prop} {R C : List Ch} {ι : Type}
theorem inBlock_mono {id : Nat} (hq : ∀ e a w, Q e a w → Q' e a w) : ∀ e a w, Exit.inBlock id Q e a w → Exit.inBlock id Q' e a w := fun e a w he => by
  cases e <;> simp only [Exit.inBlock] at he ⊢ <;> first
    | exact hq _ _ _ he
    | (split at he <;> rename_i h <;> simp only [h, if_true, if_false, ↓reduceIte] <;> exact hq _ _ _ he)
/-- What follows a loop in its block is shown once. -/
theorem nx_cutL {id : Nat} {c rest : Code} (L : ι → List (Nat × Value)) (RR CC : ι → List Ch) (hr : ∀ i, Nx (rest.wpIn F m P Q) n (L i) d W0 X (RR i) (CC i))
    (h : ∀ K, Cut K n d W0 X L RR CC → Nx ((Code.loop c).wpIn F m P (Exit.inBlock id (Exit.then K Q))) n l d W0 X R C) : Nx ((Code.loop c).wpIn F m P (Exit.inBlock id (Exit.then (rest.wpIn F m P Q) Q))) n l d W0 X R C := h _ (Cut.mk hr)
theorem nx_cut1 {a rest : Code} (L : ι → List (Nat × Value)) (RR CC : ι → List Ch) (hr : ∀ i, Nx (rest.wpIn F m P Q) n (L i) d W0 X (RR i) (CC i))
    (h : ∀ K, Cut K n d W0 X L RR CC → Nx (a.wpIn F m P (Exit.then K Q)) n l d W0 X R C) : Nx ((Code.seq a rest).wpIn F m P Q) n l d W0 X R C := nx_seq (h _ (Cut.mk hr))
theorem nx_cut2 {a x rest : Code} (L : ι → List (Nat × Value)) (RR CC : ι → List Ch) (hr : ∀ i, Nx (rest.wpIn F m P Q) n (L i) d W0 X (RR i) (CC i))
    (h : ∀ K, Cut K n d W0 X L RR CC → Nx (a.wpIn F m P (Exit.then (x.wpIn F m P (Exit.then K Q)) Q)) n l d W0 X R C) : Nx ((Code.seq a (Code.seq x rest)).wpIn F m P Q) n l d W0 X R C := fun a w ha hw =>
  wpIn_cut1 (fun _ _ h => wpIn_cut1 (fun _ _ h => h) h) (h _ (Cut.mk hr) a w ha hw)
end
end Go.Proofs.Ytinofjenoapeaaa
