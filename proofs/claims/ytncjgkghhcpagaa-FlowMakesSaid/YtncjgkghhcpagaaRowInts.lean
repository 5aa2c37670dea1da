/- A row's slice of whole numbers, opened. No condition. -/
import Derived.Test.YtncjgkghhcpagaaRowArr
import Derived.Test.YtncjgkghhcpagaaS1
import Derived.Deep.Slices
namespace Go.Proofs.Ytncjgkghhcpagaa
open Go.RowKit Go.Shelf Go.ChangeShapes Go.WideShapes Go.Deep
set_option linter.unusedSimpArgs false
set_option linter.unusedVariables false
theorem ints_open {H : Type} {enc : TypeId × Value → H} {P : Program} {W : World} {base : Nat} {spare : Nat → Bool} {held : Bool} {ts : List TypeId} {ds : List (DataW H)} {j : Nat} {t e : TypeId} {k : IntKind} {B : Nat} {a : Option Addr} {len cap : Nat} {d : DataW H} {ps : List MemPlace}
    (hsz : (DataW.weightsEach P ts ds).all (· ≤ reachBytes) = true) (ht : ts[j]? = some t) (hd : ds[j]? = some d) (hu : P.underlying t = some (.slice e)) (he : P.underlying e = some (.int k)) (hc : P.cellsOf e = 1) (hB : P.bytesOf e = B)
    (h : DataW.Trod enc P W base spare held t (.slice a len cap) d ps) : ∃ L : List Int, SliceAt W 1 (.slice a len cap) (L.map (.int k)) ∧ L.length = len ∧ (∀ x ∈ L, (Lit.int k x).wf = true) ∧ L.length * B ≤ 140737488351232 := by
  obtain ⟨fuel, hf⟩ := h
  rcases open_slice hu hf with ⟨hcs, _⟩ | ⟨A, l, c, m, n, D, Pl, hcs, _, hl, hc2, hm, hx, hel⟩
  · simp [Value.cells] at hcs
    obtain ⟨rfl, rfl, rfl⟩ := hcs
    exact ⟨[], ⟨none, 0, rfl, Nat.le_refl _, (fun _ => rfl), fun i x hx => by simp at hx⟩, rfl, (fun x hx => by cases hx), by simp⟩
  · simp [Value.cells] at hcs
    obtain ⟨rfl, rfl, rfl⟩ := hcs
    obtain ⟨hx, _⟩ := Prod.mk.inj hx
    subst hx
    rw [hc] at hel
    have hlm : len ≤ m := by rw [hm]; split <;> omega
    have z := sized_slice hsz ht hd hu
    rw [hB] at z
    simp only [List.length_map, List.length_range] at z
    obtain ⟨f, hfe⟩ := choose_lt (n := len) (p := fun i (y : Int) => (Lit.int k y).wf = true ∧ W.cells? base (A.add (i * 1)) 1 = some [.int k y]) (fun i hi => by
      obtain ⟨cs', h1, h2⟩ := hel i (by omega)
      obtain ⟨y, hy, _, hw⟩ := DataW.trod_int he h2
      refine ⟨y, hw, ?_⟩
      rw [h1]
      have hl1 : cs'.length = 1 := (World.cells?_some h1).2.1
      match cs', hl1, hy with
      | [c0], _, hy => rw [hy])
    refine ⟨(List.range len).map f, ⟨some A, cap, by simp, by simpa using hl, (fun h => by cases h), ?_⟩, by simp, ?_, ?_⟩
    · intro i x hi
      have hil : i < len := by have := (List.getElem?_eq_some_iff.1 hi).1; simpa using this
      simp [hil] at hi
      subst hi
      have h0 := (World.cells?_some (hfe 0 (by omega)).2).2.2 0 (by omega)
      have hsp : A.spot = none := by
        cases hq : A.spot with
        | none => rfl
        | some q =>
          simp [Addr.add, World.cell?, hq] at h0
          split at h0 <;> cases h0
      have hAe : A = ⟨A.block, A.off, none⟩ := by cases A; simp_all
      refine ⟨A.block, A.off, by rw [← hAe], fun r u hu => ?_⟩
      have hr : r < 1 := by have := (List.getElem?_eq_some_iff.1 hu).1; simpa [cv, Value.cells] using this
      have h1 := (World.cells?_some (hfe i hil).2).2.2 r hr
      have hcv : (cv (.int k (f i))).toList = [.int k (f i)] := rfl
      rw [hcv] at hu
      rw [hu, hAe, Addr.add_mid, Addr.add_mid] at h1
      exact h1
    · intro x hx
      obtain ⟨i, hi, rfl⟩ := List.mem_map.1 hx
      exact (hfe i (List.mem_range.1 hi)).1
    · have : reachBytes = 140737488351232 := by decide
      have h2 : len * B ≤ (len + (m - len)) * B := Nat.mul_le_mul_right _ (by omega)
      rw [List.length_map, List.length_range]; omega
theorem ints_ch {W : World} {v : Value} {k : IntKind} {L : List Int} (h : SliceAt W 1 v (L.map (.int k))) : ∃ O, (SlC 1 v (L.map (.int k))).p O W := SlC.mk h (fun x hx => by obtain ⟨i, _, rfl⟩ := List.mem_map.1 hx; exact (by simp [cv, Value.cells] : (cv (.int k i)).size ≠ 0))
end Go.Proofs.Ytncjgkghhcpagaa
