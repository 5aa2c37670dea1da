/- slices.Reverse at ints, over a slice that the call owns: the shelf's contract, told by lists. Condition: the slice is owned. -/
import Derived.Test.YtigbglagfbbmjaaShelf
import Derived.Test.YtigbglagfbbmjaaQ6
import Derived.Deep.MidRow
namespace Go.Proofs.Ytigbglagfbbmjaa
open Go.RowKit Go.Shelf
set_option linter.unusedSimpArgs false
set_option linter.unusedVariables false

theorem Touch.setCells {S : Nat → Prop} {b : Nat} (h : S b) : ∀ (vs : List Value) (o : Nat) (w : World), Touch S w (w.setCells b o vs)
  | [], o, w => Touch.refl _ _
  | v :: r, o, w => (Touch.setCell w ⟨b, o, none⟩ v h).trans (Touch.setCells h r (o + 1) _)

theorem rev_ints (w : World) (base n : Nat) (v : Value) (zs : List Int) (hown : w.ownsRow base 3 1 v n (zs.map (Value.int .i64))) (hn : n = zs.length) (hbig : n ≤ 9223372036854775807) :
    Calls Try.prog 86 #[v] w (fun e w' => e = .returned (.tuple #[]) ∧ (∃ A c, v = .slice A zs.length c ∧ (A = none → c = 0) ∧ zs.length ≤ c ∧ (∀ i x, (zs.reverse.map (Value.int .i64))[i]? = some x → ∃ b o, A = some ⟨b, o, none⟩ ∧ w'.rangeAt b (o + i * 1) (cv x).toList)) ∧ Touch (sliceBlk v) w w') := by
  subst hn
  rcases hown.2 with ⟨rfl, h0⟩ | ⟨g, cap, cur, rfl, hb, hg, hle, hm, hsz, htk⟩
  · refine (Try.slices_Reverse_int_empty none 0 w).mono ?_
    rintro e w' ⟨rfl, rfl⟩
    have : zs = [] := List.eq_nil_of_length_eq_zero h0
    subst this
    exact ⟨rfl, ⟨none, 0, rfl, (fun _ => rfl), Nat.le_refl _, fun i x hx => by simp at hx⟩, Touch.refl _ _⟩
  · have hcell : ∀ j, j < zs.length → w.cell? ⟨g, 0 + j, none⟩ = some (.int .i64 (zs.getD j 0)) := by
      intro j hj
      rw [cell_of_row w g _ cur _ _ hg, Nat.zero_add, ← Array.getElem?_toList]
      have h1 : (zs.map (Value.int .i64))[j]? = some (.int .i64 (zs.getD j 0)) := by simp [hj]
      rw [← htk, List.getElem?_take] at h1
      split at h1
      · exact h1
      · cases h1
    refine (Try.slices_Reverse_int_cells g 0 zs.length cap zs w (Nat.le_refl _) hbig hcell (fun j hj => frozen_of_row w g _ cur _ hg)).mono ?_
    rintro e w' ⟨rfl, q, rfl⟩
    have hlen : ((zs.take zs.length).reverse.map (Value.int .i64)) = zs.reverse.map (Value.int .i64) := by rw [List.take_length]
    rw [hlen]
    refine ⟨rfl, ⟨some ⟨g, 0, none⟩, cap, rfl, (fun h => by cases h), hle, fun i x hx => ⟨g, 0, rfl, ?_⟩⟩, (Touch.drewN _ w q).trans (Touch.setCells (S := sliceBlk (.slice (some ⟨g, 0, none⟩) zs.length cap)) rfl _ _ _)⟩
    obtain ⟨z, rfl⟩ : ∃ z, x = .int .i64 z := by
      obtain ⟨hi, rfl⟩ := List.getElem?_eq_some_iff.1 hx
      simp
    refine rangeAt_one rfl ?_
    obtain ⟨hi, hxe⟩ := List.getElem?_eq_some_iff.1 hx
    have := World.cell?_setCells_in g (zs.reverse.map (Value.int .i64)) 0 (w.drewN q) (fun j hj => by
      have h1 := hcell j (by simpa using hj)
      rw [show (w.drewN q).cell? ⟨g, 0 + j, none⟩ = w.cell? ⟨g, 0 + j, none⟩ from rfl, h1]; rfl) i hi
    rw [hxe] at this
    rw [Nat.mul_one]; exact this
end Go.Proofs.Ytigbglagfbbmjaa
