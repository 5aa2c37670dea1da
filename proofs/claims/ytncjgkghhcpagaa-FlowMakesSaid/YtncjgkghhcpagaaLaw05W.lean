/- What is listed and found of a list that counts what is asked of it. Condition: a list of int's values. -/
import Derived.Test.YtncjgkghhcpagaaRf05
import Derived.Test.YtncjgkghhcpagaaFzInt
import Derived.Test.YtncjgkghhcpagaaSame05
namespace Go.Proofs.Ytncjgkghhcpagaa
open Go.RowKit Go.Shelf
set_option linter.unusedSimpArgs false
set_option linter.unusedVariables false
namespace Rf05
variable {W0 : World} {X : Nat → Prop} {R C : List Ch}
theorem vofm (xs : List Int) : ∀ x ∈ xs.map (Value.int .i64), VOf Try.prog 3 x := fun x hx => by obtain ⟨i, _, rfl⟩ := List.mem_map.1 hx; exact vofi i
theorem ints_of (xs : List Int) : ∀ x ∈ xs.map (Value.int .i64), ∃ z, x = .int .i64 z := fun x hx => by obtain ⟨i, _, rfl⟩ := List.mem_map.1 hx; exact ⟨i, rfl⟩
abbrev askV (i : Nat × Nat) : Value := .func (.func 51) #[] #[ptr i.1, ptr i.2]
abbrev lowV (bb : Nat) : Value := .func (.func 26) #[] #[ptr bb]
abbrev askR (i : Nat × Nat) (bc : Nat) (s : Value) (xs : List Int) : List Ch := [BoxC i.1 22 s, BoxC i.2 47 (ptr bc), SlC 1 s (xs.map (.int .i64))]
theorem ask_it (i : Nat × Nat) (bc : Nat) (s : Value) (hs : IsSl s) (xs : List Int) (hm : xs.length ≤ 200) :
    ItZ Try.prog (fun q => cnt bc q.length) (cnt bc (xs.map (Value.int .i64)).length) (xs.map (.int .i64)) (askV i) (askR i bc s xs) :=
  asked_it i.1 i.2 bc s hs (xs.map (.int .i64)) (ints_of xs) (by simp; omega)
theorem listFirst_ct (i j : Nat × Nat) (bc : Nat) (s : Value) (hs : IsSl s) (xs : List Int) (k : Int) (hk : I64 k) (hm : xs.length ≤ 200) (hR : ∀ r ∈ BoxC j.2 3 (.int .i64 k) :: BoxC j.1 27 (askV i) :: askR i bc s xs, r ∈ R) :
    Ct Try.prog 9 [.func (.func 47) #[] #[ptr j.2, ptr j.1]] W0 X R (cnt bc 0 :: C) SV (fun v => v.1) (fun _ => R) (fun v => RowC 3 1 v.1 ((xs.take k.toNat).map (.int .i64)) :: cnt bc (xs.take k.toNat).length :: C) := by
  have h := NInt.list_ctZ (W0 := W0) (X := X) (R := R) (C := C) _ _ _ (fun q => cnt bc q.length) _ (NInt.first_itZ j.1 j.2 (askV i) k (xs.map (.int .i64)) (askR i bc s xs) (fun q => cnt bc q.length) (ask_it i bc s hs xs hm) (vofm xs) hk) (fun x hx => vofm xs x (List.mem_of_mem_take hx)) hR (by simp; omega)
  rw [← List.map_take, List.length_map] at h
  exact h
theorem tw_map (b : Int) : ∀ xs : List Int, (xs.map (Value.int .i64)).takeWhile (fun z => !lowB b z) = (xs.takeWhile fun z => !decide (z < b)).map (.int .i64)
  | [] => rfl
  | x :: xs => by
    rw [List.map_cons, List.takeWhile_cons, List.takeWhile_cons, tw_map b xs]
    by_cases h : x < b <;> simp [lowB, h]
theorem asks_map (b : Int) (xs : List Int) : asksOf (lowB b) (xs.map (Value.int .i64)) = asks b xs := by
  unfold asksOf asks; rw [tw_map]; simp only [List.length_map]
theorem filter_map (b : Int) : ∀ xs : List Int, (xs.map (Value.int .i64)).filter (lowB b) = (xs.filter fun z => decide (z < b)).map (.int .i64)
  | [] => rfl
  | x :: xs => by
    rw [List.map_cons, List.filter_cons, List.filter_cons, filter_map b xs]
    by_cases h : x < b <;> simp [lowB, h]
theorem listUntil_ct (i j : Nat × Nat) (bc bb : Nat) (s : Value) (hs : IsSl s) (xs : List Int) (b : Int) (hm : xs.length ≤ 200) (hR : ∀ r ∈ BoxC j.2 24 (lowV bb) :: BoxC j.1 27 (askV i) :: (askR i bc s xs ++ [BoxC bb 3 (.int .i64 b)]), r ∈ R) :
    Ct Try.prog 9 [.func (.func 50) #[] #[ptr j.1, ptr j.2]] W0 X R (cnt bc 0 :: C) SV (fun v => v.1) (fun _ => R) (fun v => RowC 3 1 v.1 ((xs.takeWhile fun z => !decide (z < b)).map (.int .i64)) :: cnt bc (asks b xs) :: C) := by
  have htw := tw_le (p := lowB b) (xs.map (Value.int .i64))
  have h := NInt.list_ctZ (W0 := W0) (X := X) (R := R) (C := C) _ _ _ (fun q => cnt bc q.length) _ (NInt.until_itZ j.1 j.2 (askV i) (lowV bb) (xs.map (.int .i64)) (lowB b) (askR i bc s xs) _ (fun q => cnt bc q.length) _ (ask_it i bc s hs xs hm) (below_pred xs b bb).n (vofm xs)) (fun x hx => vofm xs x ((List.takeWhile_sublist _).mem hx)) hR (by rw [List.length_map] at htw; omega)
  rw [untZ_box (cnt bc), asks_map, tw_map] at h
  exact h
theorem find_cases (b : Int) (xs : List Int) : (∃ x0, xs[(xs.takeWhile fun z => !decide (z < b)).length]? = some x0 ∧ (xs.takeWhile fun z => !decide (z < b)).length < xs.length ∧ (xs.map (Value.int .i64)).find? (lowB b) = some (.int .i64 x0)) ∨ ((xs.takeWhile fun z => !decide (z < b)).length = xs.length ∧ (xs.map (Value.int .i64)).find? (lowB b) = none) := by
  have h1 := tw_find (p := lowB b) (xs.map (Value.int .i64))
  have h2 := tw_le (p := lowB b) (xs.map (Value.int .i64))
  rw [tw_map, List.length_map] at h1 h2
  rw [List.length_map] at h2
  rw [List.getElem?_map] at h1
  by_cases h : (xs.takeWhile fun z => !decide (z < b)).length < xs.length
  · obtain ⟨x0, hx⟩ : ∃ x0, xs[(xs.takeWhile fun z => !decide (z < b)).length]? = some x0 := ⟨_, List.getElem?_eq_getElem h⟩
    exact .inl ⟨x0, hx, h, by rw [h1, hx]; rfl⟩
  · refine .inr ⟨by omega, ?_⟩
    rw [h1, List.getElem?_eq_none (by omega)]; rfl
theorem find_ct (i : Nat × Nat) (bc bb : Nat) (s : Value) (hs : IsSl s) (xs : List Int) (b : Int) (hm : xs.length ≤ 200) (hR1 : ∀ r ∈ askR i bc s xs, r ∈ R) (hR2 : ∀ r ∈ [BoxC bb 3 (.int .i64 b)], r ∈ R) :
    Ct Try.prog 23 [askV i, lowV bb] W0 X R (cnt bc 0 :: C) Unit (fun _ => .tuple #[((xs.map (Value.int .i64)).find? (lowB b)).getD (.int .i64 0), .bool ((xs.map (Value.int .i64)).find? (lowB b)).isSome]) (fun _ => R) (fun _ => cnt bc (asks b xs) :: C) := by
  have h := NInt.find_ctZ (W0 := W0) (X := X) (R := R) (C := C) (askV i) (lowV bb) (xs.map (.int .i64)) (lowB b) (askR i bc s xs) _ (fun q => cnt bc q.length) _ (ask_it i bc s hs xs hm) (below_pred xs b bb).n (vofm xs) hR1 hR2
  rw [fndZ_box (cnt bc), asks_map] at h
  exact h
theorem sameT (u v : Value) (xs : List Int) (h1 : SlC 1 u (xs.map (.int .i64)) ∈ R) (h2 : SlC 1 v (xs.map (.int .i64)) ∈ R) (hb : xs.length ≤ 1000) : Ct Try.prog 15 [u, v] W0 X R C Unit (fun _ => .bool true) (fun _ => R) (fun _ => C) := by
  have h := same_ct (W0 := W0) (X := X) (R := R) (C := C) u v xs xs h1 h2 (by omega)
  simpa using h
end Rf05
end Go.Proofs.Ytncjgkghhcpagaa
