/- A part of a slice that is shared. No condition. -/
import Derived.Test.YtinofjenoapeaaaT2
namespace Go.Proofs.Ytinofjenoapeaaa
open Go.RowKit Go.Shelf
set_option linter.unusedSimpArgs false
set_option linter.unusedVariables false
section
variable {P : Program} {K : Act → World → Prop} {n : Nat} {l : List (Nat × Value)} {d : List Deferred} {W0 : World} {X : Nat → Prop} {R C : List Ch} {o : Oper}
theorem SlC.pre {k m c i : Nat} {a : Option Addr} {xs : List Value} {O : Nat → Prop} {w : World} (h : (SlC k (.slice a m c) xs).p O w) (hi : i ≤ xs.length) : (SlC k (.slice a i c) (xs.take i)).p O w := by
  obtain ⟨⟨A, c', e1, h2, h3, h4⟩, h5, h6⟩ := h
  obtain ⟨e1, e2, e3⟩ := Value.slice.inj e1
  subst e1; subst e3
  refine ⟨⟨a, c, by rw [List.length_take, Nat.min_eq_left hi], by rw [List.length_take]; omega, h3, fun j x hj => ?_⟩, ?_, h6⟩
  · rw [List.getElem?_take] at hj
    split at hj
    · exact h4 j x hj
    · cases hj
  · exact fun hne b hb => h5 (fun e => hne (by rw [e]; simp)) b (by cases a <;> exact hb)
/-- The first part of a shared slice is shared too. -/
theorem nx_pre {k m c i : Nat} {a : Option Addr} {xs : List Value} (hm : SlC k (.slice a m c) xs ∈ R) (hi : i ≤ xs.length) (h : Nx K n l d W0 X (SlC k (.slice a i c) (xs.take i) :: R) C) : Nx K n l d W0 X R C := fun A w ha hw => by
  refine h A w ha (hw.addR (Below.refl _ _) (fun OR hR _ => ?_))
  obtain ⟨O, h1, h2⟩ := hR _ hm
  exact ⟨O, SlC.pre h1 hi, fun k hk => .inl (h2 k hk)⟩
theorem yl_slice_hk {G : World → Prop} {T : TypeId} {x hi : Operand} {a : Addr} {len cap i : Nat} (k : Nat) (ho : o.op = .slice T x none (some hi) none) (hx : ev l x = some (.slice (some a) len cap)) (hl : ev l hi = some (.int .i64 (i : Int))) (hT : slT P T k = true) (hc : i ≤ cap) : Yl P G n l d o (.slice (some a) i cap) := ⟨(fun c => by rw [ho]; exact (fun h => by cases h)), (fun A w ha hw => by
    unfold slT at hT
    split at hT
    · rename_i e' hu
      split at hT
      · rename_i inf hinf
        have hs : inf.size = k := by simpa using hT
        have hel : P.elem T = e' := by simp [Program.elem, hu]
        have hr := run_slice_h w T (some a) len cap (by rw [hel]; exact hu) .i64 (i : Int) (by omega) (by omega)
        have hr2 := run_sliceAt_slice w T (.slice (some a) len cap) none (some (.int .i64 (i : Int))) none (by rw [hel]; exact hu)
        rw [hr, hel] at hr2
        have hsz : (sizeOf e').run P w = .ok k w := by simp [sizeOf, typeInfo, hinf, hs]
        rw [hsz] at hr2
        have h0 : (some a).map (·.add (0 * k)) = some a := by simp [Addr.add]
        simp only [Result.andThen, sliced, Int.toNat_natCast, h0, Nat.sub_zero, ite_self] at hr2
        simp [execOp, ho, ha.eval hx, ha.eval hl, hr2, Sem.run_bind, Result.andThen]
      · cases hT
    · cases hT)⟩
end
end Go.Proofs.Ytinofjenoapeaaa
